/- What a call of this program has laid so far (boxes that hold sectors), and the walk's steps over it. -/
import Derived.Test.YtpmhhfphbackdaaBase
import Derived.Maps.RangeWalk
import Derived.Deep.RegionWith
namespace Go.Proofs.Ytpmhhfphbackdaa
open Go.RowKit

/-! ### Memory: what has been laid so far -/

/-- From the world 'W0' on to 'W': nothing of W0 has turned; the boxes of the list hold these sectors. -/
structure St (W0 W : World) (L : List (Nat × Sec)) : Prop where
  below : Below W0.heap.size W0 W
  own : ∀ p ∈ L, W0.heap.size ≤ p.1 ∧ W.heap[p.1]? = some (.cells (secC p.2) 24)

theorem St.start (W : World) : St W W [] := ⟨Below.refl _ _, fun _ h => by cases h⟩
theorem St.get {W0 W : World} {L : List (Nat × Sec)} (h : St W0 W L) {b : Nat} {s : Sec} (hm : (b, s) ∈ L) : W.heap[b]? = some (.cells (secC s) 24) := (h.own _ hm).2
theorem St.lt {W0 W : World} {L : List (Nat × Sec)} (h : St W0 W L) {b : Nat} {s : Sec} (hm : (b, s) ∈ L) : b < W.heap.size := by
  have := (h.own _ hm).2
  exact (Array.getElem?_eq_some_iff.1 this).1
theorem St.ge {W0 W : World} {L : List (Nat × Sec)} (h : St W0 W L) {b : Nat} {s : Sec} (hm : (b, s) ∈ L) : W0.heap.size ≤ b := (h.own _ hm).1
theorem St.step {W0 W W1 : World} {L : List (Nat × Sec)} (h : St W0 W L) (hb : Below W.heap.size W W1) : St W0 W1 L :=
  ⟨h.below.trans (hb.mono h.below.size), fun p hp => ⟨(h.own p hp).1, by rw [hb.block _ (h.lt (b := p.1) (s := p.2) hp)]; exact (h.own p hp).2⟩⟩
theorem St.only {W0 W : World} {L L' : List (Nat × Sec)} (h : St W0 W L) (hL : ∀ p ∈ L', p ∈ L) : St W0 W L' := ⟨h.below, fun p hp => h.own p (hL p hp)⟩
theorem SecsAt.step {W W1 : World} {b o : Nat} {ss : List Sec} (h : SecsAt W b o ss) (hb : Below W.heap.size W W1) : SecsAt W1 b o ss :=
  fun i hi j hj => by
    have h1 := h i hi j hj
    rw [hb.cell (World.block_lt_of_cell? _ _ h1)]; exact h1
theorem IsSecs.step {W W1 : World} {v : Value} {ss : List Sec} (h : IsSecs W v ss) (hb : Below W.heap.size W W1) : IsSecs W1 v ss := by
  rcases h with h | ⟨b, o, c, hv, hne, hm, hc, hs⟩
  · exact .inl h
  · exact .inr ⟨b, o, c, hv, hne, hm, hc, hs.step hb⟩
theorem Below.draws {W : World} : Below W.heap.size W W.drew := (Below.refl _ _).drew
theorem below_alloc (W : World) (o : Obj) : Below W.heap.size W (W.alloc o) := (Below.refl _ _).alloc (Nat.le_refl _) o
theorem below_setRow (W : World) (B g : Nat) (cs : Array Value) (h : B ≤ g) : Below B W (W.setRow g cs) :=
  ⟨rfl, rfl, rfl, by simp, fun k hk => setRow_other W g k cs (by omega)⟩
theorem St.alloc {W0 W : World} {L : List (Nat × Sec)} (h : St W0 W L) (s : Sec) : St W0 (W.alloc (.cells (secC s) 24)) ((W.heap.size, s) :: L) := by
  have h1 := h.step (below_alloc W (.cells (secC s) 24))
  refine ⟨h1.below, fun p hp => ?_⟩
  rcases List.mem_cons.1 hp with rfl | hp
  · exact ⟨h.below.size, heap_alloc_new W _⟩
  · exact h1.own p hp
theorem St.store {W0 W : World} {L L' : List (Nat × Sec)} (h : St W0 W L) {b : Nat} {s0 : Sec} (hm : (b, s0) ∈ L) (s : Sec) (hL : ∀ p ∈ L', p.1 ≠ b ∧ p ∈ L) : St W0 (W.setRow b (secC s)) ((b, s) :: L') := by
  refine ⟨h.below.trans (below_setRow W _ _ _ (h.ge hm)), fun p hp => ?_⟩
  rcases List.mem_cons.1 hp with rfl | hp
  · exact ⟨h.ge hm, setRow_heap W b _ _ _ _ (h.get hm)⟩
  · obtain ⟨h1, h2⟩ := hL p hp
    exact ⟨(h.own p h2).1, by rw [setRow_other W b _ _ h1]; exact (h.own p h2).2⟩

theorem addr_add (b o n : Nat) : (⟨b, o, none⟩ : Addr).add n = ⟨b, o + n, none⟩ := by
  unfold Addr.add; split <;> simp_all
theorem run_loadVar_secs {W : World} {b o : Nat} {ss : List Sec} (h : SecsAt W b o ss) (i : Nat) (hi : i < ss.length) :
    (loadVar 24 ⟨b, o + i * 64, none⟩).run Try.prog W = .ok (secV ss[i]) W := by
  have hl : (loadCells ⟨b, o + i * 64, none⟩ (secC ss[i]).toList.length).run Try.prog W = .ok (secC ss[i]).toList.toArray W :=
    run_loadCells_list W _ _ (fun j v hv => by
      rw [addr_add]
      have hj : j < 64 := by
        have := (List.getElem?_eq_some_iff.1 hv).1
        simpa [secC_size] using this
      rw [h i hi j hj, ← secC_get _ j hj]
      simpa using hv)
  have hagg : (isAgg 24).run Try.prog W = .ok true W := by kernel_rfl
  simp only [Array.length_toList, Array.toArray_toList, secC_size] at hl
  simp [loadVar, Sem.run_bind, hagg, hl, secV]

/-! ### The walk's steps -/
theorem wpList_want {ops : Array Oper} {rest : List Oper} {o : Oper} {a : Act} {W : World} {Q : Exit → Act → World → Prop} (hw : Region.wanted o (yielded ops a.tmps) = true)
    (h : ∀ K : Act → World → Prop, (∀ a w, wpList Try.prog ops Q rest a w → K a w) → o.wp Try.prog a W K Q) : wpList Try.prog ops Q (o :: rest) a W :=
  wpList_step fun K hK => by rw [if_pos hw]; exact h K hK
theorem mem0 {α : Type} {p : α} {l : List α} : p ∈ p :: l := List.mem_cons_self
theorem mem1 {α : Type} {p a : α} {l : List α} : p ∈ a :: p :: l := List.mem_cons_of_mem _ mem0
theorem mem2 {α : Type} {p a b : α} {l : List α} : p ∈ a :: b :: p :: l := List.mem_cons_of_mem _ mem1
theorem mem3 {α : Type} {p a b c : α} {l : List α} : p ∈ a :: b :: c :: p :: l := List.mem_cons_of_mem _ mem2
theorem mem4 {α : Type} {p a b c d : α} {l : List α} : p ∈ a :: b :: c :: d :: p :: l := List.mem_cons_of_mem _ mem3
theorem mem5 {α : Type} {p a b c d e : α} {l : List α} : p ∈ a :: b :: c :: d :: e :: p :: l := List.mem_cons_of_mem _ mem4
theorem mem6 {α : Type} {p a b c d e f : α} {l : List α} : p ∈ a :: b :: c :: d :: e :: f :: p :: l := List.mem_cons_of_mem _ mem5

section
variable {ops : Array Oper} {rest : List Oper} {o : Oper} {a : Act} {W0 W : World} {Q : Exit → Act → World → Prop} {L : List (Nat × Sec)}

theorem wl_alloc (hw : Region.wanted o (yielded ops a.tmps) = true) (ho : o.op = .alloc 24) (h : St W0 W L)
    (hK : ∀ b W1, W.heap.size ≤ b → b < W1.heap.size → Below W.heap.size W W1 → St W0 W1 ((b, zeroS) :: L) → wpList Try.prog ops Q rest (a.put o.dst (.pointer (some ⟨b, 0, none⟩))) W1) :
    wpList Try.prog ops Q (o :: rest) a W := by
  refine wpList_want hw fun K hK' => ?_
  unfold Oper.wp execOp
  simp only [ho, Sem.run_bind, run_alloc24, Result.andThen_ok, Sem.run_pure]
  exact hK' _ _ (hK _ _ (Nat.le_refl _) (by simp) (below_alloc _ _) (h.alloc zeroS))

theorem wl_box (hw : Region.wanted o (yielded ops a.tmps) = true) (x : Operand) (ho : o.op = .box 24 x) (s : Sec) (hx : a.eval x = secV s) (h : St W0 W L)
    (hK : ∀ b W1, W.heap.size ≤ b → b < W1.heap.size → Below W.heap.size W W1 → St W0 W1 ((b, s) :: L) → wpList Try.prog ops Q rest (a.put o.dst (.pointer (some ⟨b, 0, none⟩))) W1) :
    wpList Try.prog ops Q (o :: rest) a W := by
  refine wpList_want hw fun K hK' => ?_
  unfold Oper.wp execOp
  simp only [ho, hx, Sem.run_bind, run_box24, Result.andThen_ok, Sem.run_pure]
  exact hK' _ _ (hK _ _ (Nat.le_refl _) (by simp) (below_alloc _ _) (h.alloc s))

theorem wl_load (hw : Region.wanted o (yielded ops a.tmps) = true) (x : Operand) (ho : o.op = .load 24 x) (h : St W0 W L) (b : Nat) (s : Sec) (hx : a.eval x = .pointer (some ⟨b, 0, none⟩)) (hm : (b, s) ∈ L)
    (hK : wpList Try.prog ops Q rest (a.put o.dst (secV s)) W) : wpList Try.prog ops Q (o :: rest) a W :=
  wpList_want hw fun _ hK' => wp_load_row 24 x ho b hx 24 (secC s) (0, 0) _ (h.get hm) Try.underlying24 rfl (by rw [secC_size]; exact info24) (hK' _ _ hK)

theorem wl_store (hw : Region.wanted o (yielded ops a.tmps) = true) (x y : Operand) (ho : o.op = .store 24 x y) (h : St W0 W L) (b : Nat) (s0 s : Sec) (hx : a.eval x = .pointer (some ⟨b, 0, none⟩)) (hy : a.eval y = secV s) (hm : (b, s0) ∈ L)
    (L' : List (Nat × Sec)) (hL : ∀ p ∈ L', p.1 ≠ b ∧ p ∈ L)
    (hK : ∀ W1, W1.heap.size = W.heap.size → Below b W W1 → St W0 W1 ((b, s) :: L') → wpList Try.prog ops Q rest (a.put o.dst undef) W1) : wpList Try.prog ops Q (o :: rest) a W :=
  wpList_want hw fun _ hK' => wp_store_row 24 x y ho b (secC s) hx hy 24 (secC s0) (h.get hm) (by rw [secC_size]; exact info24) (by rw [secC_size, secC_size]) (secC_one s)
    (hK' _ _ (hK _ (by simp) (below_setRow _ _ _ _ (Nat.le_refl _)) (h.store hm s hL)))

/-- 'x := ..': a new box, and the sector stored into it at once. -/
theorem wl_new {o2 : Oper} (hw : Region.wanted o (yielded ops a.tmps) = true) (ho : o.op = .alloc 24) (d : Nat) (hd : o.dst = some d) (hg2 : o2.guard = none) (y : Operand) (ho2 : o2.op = .store 24 (.tmp d) y)
    (h : St W0 W L) (s : Sec) (hlt : d < a.tmps.size) (hy : ∀ v, (a.put (some d) v).eval y = secV s)
    (hK : ∀ b W1, W.heap.size ≤ b → b < W1.heap.size → Below W.heap.size W W1 → St W0 W1 ((b, s) :: L) → wpList Try.prog ops Q rest ((a.put (some d) (.pointer (some ⟨b, 0, none⟩))).put o2.dst undef) W1) :
    wpList Try.prog ops Q (o :: o2 :: rest) a W := by
  refine wl_alloc hw ho h fun b W1 hb hb1 hbl hst => ?_
  rw [hd]
  refine wl_store (by simp [Region.wanted, hg2]) (.tmp d) y ho2 hst b zeroS s (by simp [Act.eval, Act.put, hlt]) (hy _) (by simp) L (fun p hp => ⟨?_, by simp [hp]⟩) fun W2 hs hbl2 hst2 => ?_
  · have := h.lt (b := p.1) (s := p.2) hp
    omega
  · exact hK b W2 hb (by omega) (hbl.trans (hbl2.mono hb)) hst2
end
theorem wl_load_at {ops : Array Oper} {rest : List Oper} {o : Oper} {a : Act} {W : World} {Q : Exit → Act → World → Prop} (hw : Region.wanted o (yielded ops a.tmps) = true) (x : Operand) (ho : o.op = .load 24 x) {b ofs : Nat} {ss : List Sec} (h : SecsAt W b ofs ss) (i : Nat) (hi : i < ss.length) (hx : a.eval x = .pointer (some ⟨b, ofs + i * 64, none⟩))
    (hK : wpList Try.prog ops Q rest (a.put o.dst (secV ss[i])) W) : wpList Try.prog ops Q (o :: rest) a W := by
  refine wpList_want hw fun K hK' => ?_
  unfold Oper.wp execOp
  simp only [ho, hx, Instr.loadAt, Instr.sureAddr, Sem.run_bind, Sem.run_pure, Result.andThen_ok, run_loadVar_secs h i hi]
  exact hK' _ _ hK

/-- The sectors of a list, one behind the other. -/
def flat : List Sec → Array Value
  | [] => #[]
  | s :: l => secC s ++ flat l
theorem flat_get : ∀ (ss : List Sec) (i : Nat) (hi : i < ss.length) (j : Nat) (hj : j < 64), (flat ss)[i * 64 + j]? = some (byteV (ss[i] ⟨j, hj⟩))
  | s :: l, 0, _, j, hj => by
    simp only [flat, Nat.zero_mul, Nat.zero_add, List.getElem_cons_zero]
    rw [Array.getElem?_append_left (by rw [secC_size]; exact hj), secC_get s j hj]
  | s :: l, i + 1, hi, j, hj => by
    simp only [flat, List.getElem_cons_succ]
    rw [Array.getElem?_append_right (by rw [secC_size]; omega), secC_size, show (i + 1) * 64 + j - 64 = i * 64 + j by omega]
    exact flat_get l i (by simpa using hi) j hj
theorem secsAt_flat {w : World} {b : Nat} {ss : List Sec} {t : TypeId} {fr : Nat × Nat} (h : w.heap[b]? = some (.cells (flat ss) t fr)) : SecsAt w b 0 ss := by
  intro i hi j hj
  rw [cell_of_row w b _ _ _ _ h, Nat.zero_add, flat_get ss i hi j hj]
theorem isSecs_flat {w : World} {b n : Nat} {ss : List Sec} {t : TypeId} {fr : Nat × Nat} (h : w.heap[b]? = some (.cells (flat ss) t fr)) (hne : ss ≠ []) (hn : ss.length = n) (hm : n ≤ 40) : IsSecs w (.slice (some ⟨b, 0, none⟩) n n) ss := by
  subst hn
  exact .inr ⟨b, 0, _, rfl, hne, by unfold maxLen; omega, Nat.le_refl _, secsAt_flat h⟩

section
variable {ops : Array Oper} {rest : List Oper} {o : Oper} {a : Act} {W0 W : World} {Q : Exit → Act → World → Prop} {L : List (Nat × Sec)}
theorem wl_slice1 (hw : Region.wanted o (yielded ops a.tmps) = true) (x : Operand) (ho : o.op = .buildSlice 22 1 #[(0, x)]) (s : Sec) (hx : a.eval x = secV s) (h : St W0 W L)
    (hK : ∀ b W1, W.heap.size ≤ b → b < W1.heap.size → Below W.heap.size W W1 → St W0 W1 L → IsSecs W1 (.slice (some ⟨b, 0, none⟩) 1 1) [s] → wpList Try.prog ops Q rest (a.put o.dst (.slice (some ⟨b, 0, none⟩) 1 1)) W1) :
    wpList Try.prog ops Q (o :: rest) a W := by
  refine wpList_want hw fun K hK' => ?_
  unfold Oper.wp execOp
  simp only [ho, List.map_toArray, List.map_cons, List.map_nil, hx, Sem.run_bind, run_slice1, Result.andThen_ok, Sem.run_pure]
  exact hK' _ _ (hK _ _ (Nat.le_refl _) (by simp) (below_alloc _ _) (h.step (below_alloc _ _)) (isSecs_flat (t := 24) (fr := (0, 0)) (by rw [heap_alloc_new]; simp [flat]) (by simp) rfl (by omega)))
theorem wl_slice2 (hw : Region.wanted o (yielded ops a.tmps) = true) (x y : Operand) (ho : o.op = .buildSlice 22 2 #[(0, x), (1, y)]) (s t : Sec) (hx : a.eval x = secV s) (hy : a.eval y = secV t) (h : St W0 W L)
    (hK : ∀ b W1, W.heap.size ≤ b → b < W1.heap.size → Below W.heap.size W W1 → St W0 W1 L → IsSecs W1 (.slice (some ⟨b, 0, none⟩) 2 2) [s, t] → wpList Try.prog ops Q rest (a.put o.dst (.slice (some ⟨b, 0, none⟩) 2 2)) W1) :
    wpList Try.prog ops Q (o :: rest) a W := by
  refine wpList_want hw fun K hK' => ?_
  unfold Oper.wp execOp
  simp only [ho, List.map_toArray, List.map_cons, List.map_nil, hx, hy, Sem.run_bind, run_slice2, Result.andThen_ok, Sem.run_pure]
  exact hK' _ _ (hK _ _ (Nat.le_refl _) (by simp) (below_alloc _ _) (h.step (below_alloc _ _)) (isSecs_flat (t := 24) (fr := (0, 0)) (by rw [heap_alloc_new]; simp [flat]) (by simp) rfl (by omega)))
theorem wl_slice3 (hw : Region.wanted o (yielded ops a.tmps) = true) (x y z : Operand) (ho : o.op = .buildSlice 22 3 #[(0, x), (1, y), (2, z)]) (s t u : Sec) (hx : a.eval x = secV s) (hy : a.eval y = secV t) (hz : a.eval z = secV u) (h : St W0 W L)
    (hK : ∀ b W1, W.heap.size ≤ b → b < W1.heap.size → Below W.heap.size W W1 → St W0 W1 L → IsSecs W1 (.slice (some ⟨b, 0, none⟩) 3 3) [s, t, u] → wpList Try.prog ops Q rest (a.put o.dst (.slice (some ⟨b, 0, none⟩) 3 3)) W1) :
    wpList Try.prog ops Q (o :: rest) a W := by
  refine wpList_want hw fun K hK' => ?_
  unfold Oper.wp execOp
  simp only [ho, List.map_toArray, List.map_cons, List.map_nil, hx, hy, hz, Sem.run_bind, run_slice3, Result.andThen_ok, Sem.run_pure]
  exact hK' _ _ (hK _ _ (Nat.le_refl _) (by simp) (below_alloc _ _) (h.step (below_alloc _ _)) (isSecs_flat (t := 24) (fr := (0, 0)) (by rw [heap_alloc_new]; simp [flat]) (by simp) rfl (by omega)))
/-- The zero sector, written out. -/
theorem wl_zero (hw : Region.wanted o (yielded ops a.tmps) = true) (ho : o.op = .build 24 #[]) (hK : wpList Try.prog ops Q rest (a.put o.dst (secV zeroS)) W) : wpList Try.prog ops Q (o :: rest) a W := by
  refine wpList_want hw fun K hK' => ?_
  unfold Oper.wp execOp
  simp only [ho, List.map_toArray, List.map_nil, Sem.run_bind, run_build24, Result.andThen_ok, Sem.run_pure]
  exact hK' _ _ hK
end

theorem ret_sec {fn : Func} {p : Tmp} {R : Ending → World → Prop} {a : Act} {W0 W : World} {L : List (Nat × Sec)} (h : fn.results = #[.cell p 24]) (b : Nat) (s : Sec) (hp : a.tmps.getD p undef = .pointer (some ⟨b, 0, none⟩)) (hst : St W0 W L) (hm : (b, s) ∈ L)
    (hd : a.defers = []) (hR : R (.returned (secV s)) W) : bodyPost Try.prog fn R .ret a W :=
  bodyPost_ret (v := secV s) (results_cell_row h _ _ b 24 (secC s) (0, 0) _ hp (hst.get hm) Try.underlying24 rfl (by rw [secC_size]; exact info24)) hd hR

theorem wl_eql {ops : Array Oper} {rest : List Oper} {o : Oper} {a : Act} {W : World} {Q : Exit → Act → World → Prop} (hw : Region.wanted o (yielded ops a.tmps) = true) (x y : Operand) (ho : o.op = .binOp .eql 24 x y 24) (s t : Sec) (hx : a.eval x = secV s) (hy : a.eval y = secV t)
    (hK : wpList Try.prog ops Q rest (a.put o.dst (.bool (secEq s t))) W) : wpList Try.prog ops Q (o :: rest) a W := by
  refine wpList_want hw fun K hK' => ?_
  unfold Oper.wp execOp
  simp only [ho, hx, hy, Sem.run_bind, run_guard_sec, run_eql_sec, Result.andThen_ok, Sem.run_pure]
  exact hK' _ _ hK
theorem wl_neq {ops : Array Oper} {rest : List Oper} {o : Oper} {a : Act} {W : World} {Q : Exit → Act → World → Prop} (hw : Region.wanted o (yielded ops a.tmps) = true) (x y : Operand) (ho : o.op = .binOp .neq 24 x y 24) (s t : Sec) (hx : a.eval x = secV s) (hy : a.eval y = secV t)
    (hK : wpList Try.prog ops Q rest (a.put o.dst (.bool (!secEq s t))) W) : wpList Try.prog ops Q (o :: rest) a W := by
  refine wpList_want hw fun K hK' => ?_
  unfold Oper.wp execOp
  simp only [ho, hx, hy, Sem.run_bind, run_guard_sec, run_neq_sec, Result.andThen_ok, Sem.run_pure]
  exact hK' _ _ hK
end Go.Proofs.Ytpmhhfphbackdaa
