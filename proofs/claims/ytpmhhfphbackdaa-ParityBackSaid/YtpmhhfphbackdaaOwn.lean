/- Slices of sectors that a call itself has made: appended to, read, stored into. -/
import Derived.Test.YtpmhhfphbackdaaOpen
import Derived.Laws.AppendOwnNone
namespace Go.Proofs.Ytpmhhfphbackdaa
open Go.RowKit
set_option linter.unusedSimpArgs false

/-- The walk stands still here. -/
def Stop (p : Prop) : Prop := p
theorem stop {p : Prop} (h : Stop p) : p := h
theorem flat_size : ∀ ss : List Sec, (flat ss).size = ss.length * 64
  | [] => rfl
  | s :: l => by rw [flat, Array.size_append, secC_size, flat_size l, List.length_cons]; omega
theorem flat_append : ∀ l m : List Sec, flat (l ++ m) = flat l ++ flat m
  | [], m => by simp [flat]
  | s :: l, m => by rw [List.cons_append, flat, flat_append l m, flat, Array.append_assoc]
theorem secC_one' (s : Sec) : ∀ u ∈ (secC s).toList, u.oneCell' = true := fun u hu => Array.all_eq_true_iff_forall_mem.1 (secC_one s) u (Array.mem_toList_iff.1 hu)
theorem flat_one (ss : List Sec) : ∀ u ∈ (flat ss).toList, u.oneCell' = true := by
  induction ss with
  | nil => intro u hu; simp [flat] at hu
  | cons s l ih =>
    intro u hu
    rw [flat, Array.toList_append, List.mem_append] at hu
    rcases hu with hu | hu
    · exact secC_one' s u hu
    · exact ih u hu

/-- Block g holds these sectors at its head, and room for 'cap' in all; nobody has frozen it. -/
def RowAt (w : World) (g cap : Nat) (ss : List Sec) : Prop :=
  ∃ cur : Array Value, w.heap[g]? = some (.cells cur 24) ∧ cur.size = cap * 64 ∧ ss.length ≤ cap ∧ cap ≤ maxLen ∧ cur.toList.take (ss.length * 64) = (flat ss).toList
theorem RowAt.lt {w : World} {g cap : Nat} {ss : List Sec} (h : RowAt w g cap ss) : g < w.heap.size := by
  obtain ⟨cur, h1, _⟩ := h
  exact (Array.getElem?_eq_some_iff.1 h1).1
theorem RowAt.same {w w' : World} {g cap : Nat} {ss : List Sec} (h : RowAt w g cap ss) (he : w'.heap[g]? = w.heap[g]?) : RowAt w' g cap ss := by
  obtain ⟨cur, h1, h2⟩ := h
  exact ⟨cur, he.trans h1, h2⟩
theorem RowAt.step {w w' : World} {g cap : Nat} {ss : List Sec} (h : RowAt w g cap ss) (hb : Below w.heap.size w w') : RowAt w' g cap ss := h.same (hb.block g h.lt)
theorem RowAt.secsAt {w : World} {g cap : Nat} {ss : List Sec} (h : RowAt w g cap ss) : SecsAt w g 0 ss := by
  obtain ⟨cur, h1, h2, h3, h4, h5⟩ := h
  intro i hi j hj
  have hlt : i * 64 + j < ss.length * 64 := by omega
  rw [cell_of_row w g _ _ _ _ h1, Nat.zero_add, ← flat_get ss i hi j hj, ← Array.getElem?_toList, ← Array.getElem?_toList, ← h5, List.getElem?_take, if_pos hlt]
theorem RowAt.isSecs {w : World} {g cap : Nat} {ss : List Sec} (h : RowAt w g cap ss) : IsSecs w (.slice (some ⟨g, 0, none⟩) ss.length cap) ss := by
  by_cases h0 : ss = []
  · subst h0; exact .inl ⟨_, _, rfl, fun h => (by cases h), rfl⟩
  · have hs := h.secsAt
    obtain ⟨cur, h1, h2, h3, h4, h5⟩ := h
    exact .inr ⟨g, 0, cap, rfl, h0, by omega, h3, hs⟩
theorem RowAt.owns {w : World} {g cap base : Nat} {ss : List Sec} (h : RowAt w g cap ss) (hb : base ≤ g) : w.ownsRow base 24 64 (.slice (some ⟨g, 0, none⟩) ss.length cap) ss.length (flat ss).toList := by
  obtain ⟨cur, h1, h2, h3, h4, h5⟩ := h
  exact ⟨by rw [Array.length_toList, flat_size], .inr ⟨g, cap, cur, rfl, hb, h1, h3, h4, h2, h5⟩⟩
/-- What an append has left: nil (nothing is in it), or a row of the call's own. -/
theorem owns_cases {w : World} {base : Nat} {v : Value} {ss : List Sec} {n : Nat} (hn : n = ss.length) (h : w.ownsRow base 24 64 v n (flat ss).toList) :
    (v = .slice none 0 0 ∧ ss = []) ∨ ∃ g cap, v = .slice (some ⟨g, 0, none⟩) ss.length cap ∧ base ≤ g ∧ RowAt w g cap ss := by
  subst hn
  obtain ⟨h1, h2⟩ := h
  rcases h2 with ⟨h3, h4⟩ | ⟨g, cap, cur, h3, h4, h5, h6, h7, h8, h9⟩
  · exact .inl ⟨h3, List.eq_nil_of_length_eq_zero h4⟩
  · exact .inr ⟨g, cap, h3, h4, cur, h5, h8, h6, h7, h9⟩

/-- What the call owns (the law of append's own word, kept whole). -/
def Owned (w : World) (base : Nat) (v : Value) (ss : List Sec) : Prop := w.ownsRow base 24 64 v ss.length (flat ss).toList
theorem Owned.cases {w : World} {base : Nat} {v : Value} {ss : List Sec} (h : Owned w base v ss) :
    (∃ a c, v = .slice a 0 c ∧ (a = none → c = 0) ∧ ss = []) ∨ ∃ g cap, v = .slice (some ⟨g, 0, none⟩) ss.length cap ∧ base ≤ g ∧ RowAt w g cap ss ∧ 0 < ss.length := by
  rcases owns_cases rfl h with ⟨h1, h2⟩ | ⟨g, cap, h1, h2, h3⟩
  · exact .inl ⟨_, _, h1, fun _ => rfl, h2⟩
  · by_cases h0 : ss = []
    · exact .inl ⟨_, _, by rw [h1, h0]; rfl, fun h => (by cases h), h0⟩
    · exact .inr ⟨g, cap, h1, h2, h3, List.length_pos_iff.2 h0⟩
theorem RowAt.owned {w : World} {g cap base : Nat} {ss : List Sec} (h : RowAt w g cap ss) (hb : base ≤ g) : Owned w base (.slice (some ⟨g, 0, none⟩) ss.length cap) ss := h.owns hb

/-- Storing one sector. -/
theorem set_flat (ss : List Sec) (i : Nat) (hi : i < ss.length) (s : Sec) : (flat ss).toList.take (i * 64) ++ (secC s).toList ++ (flat ss).toList.drop (i * 64 + 64) = (flat (ss.set i s)).toList := by
  have hsplit : ss = ss.take i ++ ss[i] :: ss.drop (i + 1) := by rw [List.getElem_cons_drop, List.take_append_drop]
  have hset : ss.set i s = ss.take i ++ s :: ss.drop (i + 1) := List.set_eq_take_append_cons_drop.trans (by rw [if_pos hi])
  have hl : (flat (ss.take i)).toList.length = i * 64 := by rw [Array.length_toList, flat_size, List.length_take, Nat.min_eq_left (by omega)]
  have hc : (secC ss[i]).toList.length = 64 := by rw [Array.length_toList, secC_size]
  have hf : (flat ss).toList = (flat (ss.take i)).toList ++ ((secC ss[i]).toList ++ (flat (ss.drop (i + 1))).toList) := by
    conv => lhs; rw [hsplit]
    rw [flat_append, flat, Array.toList_append, Array.toList_append]
  rw [hset, flat_append, flat, Array.toList_append, Array.toList_append, hf]
  rw [List.take_append_of_le_length (by omega), List.take_of_length_le (by omega), List.drop_append, List.drop_eq_nil_of_le (by omega), hl, show i * 64 + 64 - i * 64 = 64 by omega, List.drop_append_of_le_length (by omega), List.drop_eq_nil_of_le (by omega)]
  simp
theorem RowAt.set {w : World} {g cap : Nat} {ss : List Sec} (h : RowAt w g cap ss) (i : Nat) (hi : i < ss.length) (s : Sec) :
    ∃ cs, (storeCells ⟨g, i * 64, none⟩ (secC s).toList).run Try.prog w = .ok () (w.setRow g cs) ∧ RowAt (w.setRow g cs) g cap (ss.set i s) := by
  obtain ⟨cur, h1, h2, h3, h4, h5⟩ := h
  have hcl : (secC s).toList.length = 64 := by rw [Array.length_toList, secC_size]
  have hcur : cur.toList.length = cap * 64 := by rw [Array.length_toList, h2]
  have hrun := run_storeCells_at (P := Try.prog) g (i * 64) 24 (secC s).toList 0 cur w h1 (by rw [hcl]; omega) (secC_one' s)
  refine ⟨_, hrun, ⟨_, setRow_heap w g _ _ _ _ h1, ?_, by rw [List.length_set]; exact h3, h4, ?_⟩⟩
  · rw [List.size_toArray]
    simp only [List.length_append, List.length_take, List.length_drop, hcl, hcur]
    omega
  · rw [List.length_set, ← set_flat ss i hi s, ← h5, Nat.add_zero, hcl]
    have e1 : (cur.toList.take (ss.length * 64)).take (i * 64) = cur.toList.take (i * 64) := by rw [List.take_take, Nat.min_eq_left (by omega)]
    have e2 : (cur.toList.take (ss.length * 64)).drop (i * 64 + 64) = (cur.toList.drop (i * 64 + 64)).take (ss.length * 64 - (i * 64 + 64)) := by rw [List.drop_take]
    rw [e1, e2]
    have hl1 : (cur.toList.take (i * 64) ++ (secC s).toList).length = i * 64 + 64 := by rw [List.length_append, List.length_take, hcl, hcur, Nat.min_eq_left (by omega)]
    rw [List.take_append, hl1, List.take_of_length_le (by rw [hl1]; omega)]

theorem infoS : ∃ i, Try.prog.info? 24 = some i ∧ i.zero = some (secV zeroS) ∧ i.size = 64 ∧ i.bytes = 64 := info_parts (by kernel_rfl)

section
variable {ops : Array Oper} {rest : List Oper} {o : Oper} {a : Act} {W : World} {Q : Exit → Act → World → Prop}
/-- append(s, x...), s of the call's own. -/
theorem wl_append (hg : o.guard = none) (s x : Operand) (ho : o.op = .call { callee := .builtin .append, args := #[s, x], argTypes := #[22, 22] })
    (base : Nat) (v : Value) (ss : List Sec) (hs : a.eval s = v) (hown : Owned W base v ss) (u : Value) (tt : List Sec) (hx : a.eval x = u) (ht : IsSecs W u tt) (hn : ss.length + tt.length ≤ 1000) (hbase : base ≤ W.heap.size)
    (hK : ∀ v' W', Owned W' base v' (ss ++ tt) → W.grownBy W' v.ownBlock → wpList Try.prog ops Q rest (a.put o.dst v') W') : wpList Try.prog ops Q (o :: rest) a W := by
  obtain ⟨i, hi, hz0, hz1, hz2⟩ := infoS
  rcases ht with ⟨ad, c, rfl, hac, rfl⟩ | ⟨b, of, c, rfl, hne, hm, hc, hsec⟩
  · cases ad with
    | none =>
      rw [hac rfl] at hx
      exact wpList_append_own_none hg s x 22 ho base 24 i 64 Try.underlying22 hi v ss.length (flat ss).toList hs hown hx (hK v W (by rw [List.append_nil]; exact hown) (World.grownBy.refl _ _))
    | some ad =>
      refine wpList_append_own W hg s x 22 ho base 24 i (secV zeroS) 64 64 Try.underlying22 hi hz0 hz1 hz2 (by simp [secV, Value.cells, secC_size]) (by omega) v ss.length (flat ss).toList hs hown ad 0 c [] hx (by simp) (by simp) (by simp) (by unfold maxLen; omega) (by omega) hbase ?_
      intro v' W' h1 h2 _
      exact hK v' W' (by rw [List.append_nil]; simpa [Owned] using h1) h2
  · refine wpList_append_own W hg s x 22 ho base 24 i (secV zeroS) 64 64 Try.underlying22 hi hz0 hz1 hz2 (by simp [secV, Value.cells, secC_size]) (by omega) v ss.length (flat ss).toList hs hown ⟨b, of, none⟩ tt.length c (flat tt).toList hx (by rw [Array.length_toList, flat_size]) ?_ (flat_one tt) (by unfold maxLen; omega) (by omega) hbase ?_
    · intro j u hj
      rw [addr_add]
      have hlt : j < tt.length * 64 := by
        have := (List.getElem?_eq_some_iff.1 hj).1
        rwa [Array.length_toList, flat_size] at this
      have h1 := hsec (j / 64) (by omega) (j % 64) (by omega)
      have h2 := flat_get tt (j / 64) (by omega) (j % 64) (by omega)
      rw [show j / 64 * 64 + j % 64 = j by omega] at h2
      rw [Array.getElem?_toList, h2] at hj
      rw [show of + j = of + j / 64 * 64 + j % 64 by omega, h1]
      exact hj
    · intro v' W' h1 h2 _
      refine hK v' W' ?_ h2
      rw [Owned, List.length_append, flat_append, Array.toList_append]
      exact h1
/-- The empty slice, written out: a row of its own without room. -/
theorem wl_slice0 (hw : Region.wanted o (yielded ops a.tmps) = true) (ho : o.op = .buildSlice 22 0 #[]) {W0 : World} {L : List (Nat × Sec)} (h : St W0 W L)
    (hK : ∀ b W1, W.heap.size ≤ b → b < W1.heap.size → Below W.heap.size W W1 → St W0 W1 L → RowAt W1 b 0 [] → wpList Try.prog ops Q rest (a.put o.dst (.slice (some ⟨b, 0, none⟩) 0 0)) W1) :
    wpList Try.prog ops Q (o :: rest) a W := by
  refine wpList_want hw fun K hK' => ?_
  unfold Oper.wp execOp
  simp only [ho, List.map_toArray, List.map_nil, Sem.run_bind, run_slice0, Result.andThen_ok, Sem.run_pure]
  exact hK' _ _ (hK _ _ (Nat.le_refl _) (by simp) (below_alloc _ _) (h.step (below_alloc _ _)) ⟨#[], heap_alloc_new W _, rfl, by simp, by simp, by simp [flat]⟩)
/-- One sector stored into a row. -/
theorem wl_store_at (hw : Region.wanted o (yielded ops a.tmps) = true) (x y : Operand) (ho : o.op = .store 24 x y) (g cap : Nat) (ss : List Sec) (h : RowAt W g cap ss) (i : Nat) (hi : i < ss.length) (s : Sec) (hx : a.eval x = .pointer (some ⟨g, i * 64, none⟩)) (hy : a.eval y = secV s)
    (hK : ∀ cs, RowAt (W.setRow g cs) g cap (ss.set i s) → wpList Try.prog ops Q rest (a.put o.dst undef) (W.setRow g cs)) : wpList Try.prog ops Q (o :: rest) a W := by
  obtain ⟨cs, hrun, hrow⟩ := h.set i hi s
  refine wpList_want hw fun K hK' => ?_
  have hst : (storeVar 24 ⟨g, i * 64, none⟩ (secV s)).run Try.prog W = .ok () (W.setRow g cs) := by
    have hsz : (sizeOf 24).run Try.prog W = .ok 64 W := by kernel_rfl
    unfold storeVar secV
    rw [Sem.run_bind, hsz]
    simp only [Result.andThen_ok, Value.cells, secC_size, ne_eq, not_true_eq_false, if_false]
    exact hrun
  unfold Oper.wp execOp
  simp only [ho, hx, hy, Instr.storeAt, Instr.sureAddr, Sem.run_bind, Sem.run_pure, Result.andThen_ok, hst]
  exact hK' _ _ (hK cs hrow)
end

/-! ### What the memory beside it does -/
theorem Below.of_grown {w w' : World} {row : Option Nat} {B : Nat} (hg : w.grownBy w' row) (hB : B ≤ w.heap.size) (hr : ∀ k, row = some k → B ≤ k) : Below B w w' := (Below.refl B w).grown hg hB hr
theorem St.grown {W0 W W' : World} {L : List (Nat × Sec)} {row : Option Nat} (h : St W0 W L) (hg : W.grownBy W' row) (hr : ∀ k, row = some k → W0.heap.size ≤ k ∧ ∀ p ∈ L, p.1 ≠ k) : St W0 W' L :=
  ⟨h.below.grown hg h.below.size (fun k hk => (hr k hk).1), fun p hp => ⟨(h.own p hp).1, by
    rw [hg.block p.1 (h.lt (b := p.1) (s := p.2) hp) (fun e => (hr p.1 e.symm).2 p hp rfl)]; exact (h.own p hp).2⟩⟩
theorem St.setRow {W0 W : World} {L : List (Nat × Sec)} (h : St W0 W L) (g : Nat) (cs : Array Value) (hg : W0.heap.size ≤ g) (hL : ∀ p ∈ L, p.1 ≠ g) : St W0 (W.setRow g cs) L :=
  ⟨h.below.trans (below_setRow W _ _ _ hg), fun p hp => ⟨(h.own p hp).1, by rw [setRow_other W g _ _ (hL p hp)]; exact (h.own p hp).2⟩⟩
theorem SecsAt.same {w w' : World} {b o : Nat} {ss : List Sec} (h : SecsAt w b o ss) (he : w'.heap[b]? = w.heap[b]?) : SecsAt w' b o ss :=
  fun i hi j hj => (World.cell?_of_block (a := ⟨b, _, none⟩) he).trans (h i hi j hj)
/-- What was there when the call began reads as it did. -/
theorem IsSecs.since {W0 W : World} {L : List (Nat × Sec)} {v : Value} {ss : List Sec} (hs : IsSecs W0 v ss) (h : St W0 W L) : IsSecs W v ss := hs.step h.below
theorem IsSecs.cut {w : World} {a : Option Addr} {n c : Nat} {ss : List Sec} (h : IsSecs w (.slice a n c) ss) (k : Nat) (hk : k = min n 40) : IsSecs w (sliced a 0 k c 64) (ss.take 40) := by
  rcases h with ⟨a', c', hv, hac, rfl⟩ | ⟨b, o, c', hv, hne, hm, hc, hs⟩
  · simp only [Value.slice.injEq] at hv
    obtain ⟨rfl, rfl, rfl⟩ := hv
    subst hk
    refine .inl ⟨_, c, rfl, ?_, by simp⟩
    intro h
    cases a with
    | none => exact hac rfl
    | some a => split at h <;> simp at h
  · simp only [Value.slice.injEq] at hv
    obtain ⟨rfl, rfl, rfl⟩ := hv
    subst hk
    have h1 := IsSecs.hi hs hm (min ss.length 40) (by omega) hc
    by_cases hl : ss.length ≤ 40
    · rw [Nat.min_eq_left hl] at h1 ⊢
      rw [List.take_length] at h1
      rw [List.take_of_length_le hl]
      exact h1
    · rw [Nat.min_eq_right (by omega)] at h1 ⊢
      exact h1
theorem IsSecs.len {w : World} {a : Option Addr} {n c : Nat} {ss : List Sec} (h : IsSecs w (.slice a n c) ss) : n = ss.length ∧ n ≤ c ∧ n ≤ maxLen := by
  rcases h with ⟨a', c', hv, hac, rfl⟩ | ⟨b, o, c', hv, hne, hm, hc, hs⟩
  · simp only [Value.slice.injEq] at hv
    obtain ⟨rfl, rfl, rfl⟩ := hv
    exact ⟨rfl, by omega, by omega⟩
  · simp only [Value.slice.injEq] at hv
    obtain ⟨rfl, rfl, rfl⟩ := hv
    exact ⟨rfl, hc, hm⟩
theorem IsSecs.form {w : World} {v : Value} {ss : List Sec} (h : IsSecs w v ss) : ∃ a n c, v = .slice a n c := by
  rcases h with ⟨a, c, hv, _⟩ | ⟨b, o, c, hv, _⟩
  · exact ⟨_, _, _, hv⟩
  · exact ⟨_, _, _, hv⟩

/-! ### The first forty -/
section
variable {ops : Array Oper} {rest : List Oper} {o : Oper} {a : Act} {W : World} {Q : Exit → Act → World → Prop}
theorem run_min40 (n : Nat) (t : TypeId) (w : World) : (Builtin.min_ #[3, 3] t #[.int .i64 n, .int .i64 40]).run Try.prog w = .ok (.int .i64 ((min n 40 : Nat) : Int)) w := by
  by_cases h : n ≤ 40
  · rw [Nat.min_eq_left h]
    go_simp
    omega
  · rw [Nat.min_eq_right (by omega)]
    go_simp
    omega
theorem wl_min40 (hw : Region.wanted o (yielded ops a.tmps) = true) (x : Operand) (ho : o.op = .call { callee := .builtin .min, args := #[x, .const (.int .i64 40)], argTypes := #[3, 3] }) (n : Nat) (hx : a.eval x = .int .i64 n)
    (hK : wpList Try.prog ops Q rest (a.put o.dst (.int .i64 ((min n 40 : Nat) : Int))) W) : wpList Try.prog ops Q (o :: rest) a W := by
  refine wpList_want hw fun K hK' => ?_
  unfold Oper.wp
  have hc : a.eval (.const (.int .i64 40)) = .int .i64 40 := rfl
  simp [execOp, ho, resolve, invoke, builtin, hx, hc, run_min40, Result.andThen]
  exact hK' _ _ hK
theorem wl_cut (hw : Region.wanted o (yielded ops a.tmps) = true) (x y : Operand) (ho : o.op = .slice 22 x none (some y) none) (b : Option Addr) (n c k : Nat) (hx : a.eval x = .slice b n c) (hy : a.eval y = .int .i64 k) (hk : k ≤ c)
    (hK : wpList Try.prog ops Q rest (a.put o.dst (sliced b 0 k c 64)) W) : wpList Try.prog ops Q (o :: rest) a W := by
  refine wpList_want hw fun K hK' => ?_
  unfold Oper.wp execOp
  simp only [ho, hx, hy, Option.map, Sem.run_bind, run_sl_hi b n c k k rfl hk, Result.andThen_ok, Sem.run_pure]
  exact hK' _ _ hK
end

/-! ### Numbers -/
/-- The last k bits of an int. -/
theorem i64_mask (k : Nat) (hk : k ≤ 32) (n : Int) : bits .and .i64 n ((2 ^ k - 1 : Nat) : Int) = n % (2 ^ k : Nat) := by
  have hlt : 2 ^ k ≤ 2 ^ 32 := Nat.pow_le_pow_right (by omega) hk
  have hpos : 0 < 2 ^ k := Nat.two_pow_pos k
  have h1 : (BitVec.ofInt 64 ((2 ^ k - 1 : Nat) : Int)).toNat = 2 ^ k - 1 := by
    rw [BitVec.toNat_ofInt]
    omega
  have h2 : (BitVec.ofInt 64 n).toNat = (n % (2 ^ 64 : Nat)).toNat := BitVec.toNat_ofInt n
  have h3 : ((BitVec.ofInt 64 n) &&& (BitVec.ofInt 64 ((2 ^ k - 1 : Nat) : Int))).toNat = (n % (2 ^ k : Nat)).toNat := by
    rw [BitVec.toNat_and, h1, h2, Nat.and_two_pow_sub_one_eq_mod]
    have hd : ((2 ^ k : Nat) : Int) ∣ ((2 ^ 64 : Nat) : Int) := Int.natCast_dvd_natCast.2 (Nat.pow_dvd_pow 2 (by omega))
    have h4 := Int.emod_emod_of_dvd n hd
    have h5 : 0 ≤ n % ((2 ^ 64 : Nat) : Int) := Int.emod_nonneg _ (by omega)
    have h6 : 0 ≤ n % ((2 ^ k : Nat) : Int) := Int.emod_nonneg _ (by omega)
    apply Int.ofNat_inj.1
    rw [Int.natCast_emod, Int.toNat_of_nonneg h5, Int.toNat_of_nonneg h6]
    exact h4
  have h6 : 0 ≤ n % ((2 ^ k : Nat) : Int) := Int.emod_nonneg _ (by omega)
  have h7 : n % ((2 ^ k : Nat) : Int) < (2 ^ k : Nat) := Int.emod_lt_of_pos _ (by omega)
  unfold bits
  show IntKind.i64.wrap (((BitVec.ofInt 64 n) &&& (BitVec.ofInt 64 ((2 ^ k - 1 : Nat) : Int))).toNat : Int) = _
  rw [h3, Int.toNat_of_nonneg h6]
  exact IntWalk.i64_in _ (by omega)
section
variable {ops : Array Oper} {rest : List Oper} {o : Oper} {a : Act} {W : World} {Q : Exit → Act → World → Prop}
theorem run_mask (k : Nat) (hk : k ≤ 32) (i : Int) (y : Int) (hy : y = ((2 ^ k - 1 : Nat) : Int)) (w : World) : (binOp .and 3 (.int .i64 i) (.int .i64 y)).run Try.prog w = .ok (.int .i64 (((i % (2 ^ k : Nat)).toNat : Nat) : Int)) w := by
  subst hy
  have hpos : 0 < 2 ^ k := Nat.two_pow_pos k
  have h6 : 0 ≤ i % ((2 ^ k : Nat) : Int) := Int.emod_nonneg _ (by omega)
  rw [Int.toNat_of_nonneg h6, ← i64_mask k hk i]
  rfl
theorem wl_mask (hw : Region.wanted o (yielded ops a.tmps) = true) (k : Nat) (hk : k ≤ 32) (x : Operand) (y : Int) (ho : o.op = .binOp .and 3 x (.const (.int .i64 y)) 3) (hy : y = ((2 ^ k - 1 : Nat) : Int)) (i : Int) (hx : a.eval x = .int .i64 i)
    (hK : wpList Try.prog ops Q rest (a.put o.dst (.int .i64 (((i % (2 ^ k : Nat)).toNat : Nat) : Int))) W) : wpList Try.prog ops Q (o :: rest) a W := by
  refine wpList_want hw fun K hK' => ?_
  unfold Oper.wp execOp
  have hg : ∀ p q u v, (eqGuard .and 3 p q u v).run Try.prog W = .ok () W := fun _ _ _ _ => rfl
  have hc : a.eval (.const (.int .i64 y)) = .int .i64 y := rfl
  simp only [ho, hx, hc, Sem.run_bind, hg, Result.andThen_ok, run_mask k hk i y hy, Sem.run_pure]
  exact hK' _ _ hK
theorem run_rem (e m : Nat) (hm : 0 < m) (w : World) : (binOp .rem 3 (.int .i64 e) (.int .i64 m)).run Try.prog w = .ok (.int .i64 ((e % m : Nat) : Int)) w := by
  have hne : ¬ ((m : Int) = 0) := by omega
  have ht : (e : Int).tmod (m : Int) = ((e % m : Nat) : Int) := by rw [Int.tmod_eq_emod_of_nonneg (by omega)]; rfl
  simp only [binOp, Op.intDiv, ne_eq, not_true_eq_false, if_false, hne]
  rw [ht]
  rfl
theorem wl_rem (hw : Region.wanted o (yielded ops a.tmps) = true) (x y : Operand) (ho : o.op = .binOp .rem 3 x y 3) (e m : Nat) (hx : a.eval x = .int .i64 e) (hy : a.eval y = .int .i64 m) (hm : 0 < m)
    (hK : wpList Try.prog ops Q rest (a.put o.dst (.int .i64 ((e % m : Nat) : Int))) W) : wpList Try.prog ops Q (o :: rest) a W := by
  refine wpList_want hw fun K hK' => ?_
  unfold Oper.wp execOp
  have hg : ∀ p q u v, (eqGuard .rem 3 p q u v).run Try.prog W = .ok () W := fun _ _ _ _ => rfl
  simp only [ho, hx, hy, Sem.run_bind, hg, Result.andThen_ok, run_rem e m hm, Sem.run_pure]
  exact hK' _ _ hK
end

section
variable {ops : Array Oper} {rest : List Oper} {o : Oper} {a : Act} {W : World} {Q : Exit → Act → World → Prop}
theorem RowAt.load {g cap : Nat} {ss : List Sec} (h : RowAt W g cap ss) (i : Nat) (hi : i < ss.length) {ρ : Operand → Value} (x : Operand) (ho : o.op = .load 24 x) (hx : ρ x = .pointer (some ⟨g, i * 64, none⟩)) :
    (execOp ρ o).run Try.prog W = .ok (.value (secV ss[i])) W :=
  h.secsAt.load i hi x ho (by rw [hx, Nat.zero_add])
theorem wl_load_own (hw : Region.wanted o (yielded ops a.tmps) = true) (x : Operand) (ho : o.op = .load 24 x) (g cap : Nat) (ss : List Sec) (h : RowAt W g cap ss) (i : Nat) (hi : i < ss.length) (hx : a.eval x = .pointer (some ⟨g, i * 64, none⟩))
    (hK : wpList Try.prog ops Q rest (a.put o.dst (secV ss[i])) W) : wpList Try.prog ops Q (o :: rest) a W :=
  wl_run hw _ (h.load i hi x ho hx) hK
theorem run_zero (w : World) {ρ : Operand → Value} (o : Oper) (ho : o.op = .build 24 #[]) : (execOp ρ o).run Try.prog w = .ok (.value (secV zeroS)) w := by
  unfold execOp
  simp only [ho, List.map_toArray, List.map_nil, Sem.run_bind, run_build24, Result.andThen_ok, Sem.run_pure]
theorem ord_eqlT {l : List Oper} {i : Nat} {o : Oper} {r : List (Nat × Nat)} {S : World → Prop} {Q : Exit → Act → World → Prop} {a : Act} {w : World} (ho : Reg.nth l i = some o) (hw : Region.wanted o (yielded l.toArray a.tmps) = true) (hS : S w)
    (x y : Operand) (hop : o.op = .binOp .eql 24 x y 24) (s t : Sec) (hx : a.eval x = secV s) (hy : a.eval y = secV t) (h : secEq s t = true)
    (hK : Reg.wpOrd Try.prog l.toArray S Q r (a.put o.dst (.bool true)) w) : Reg.wpOrd Try.prog l.toArray S Q ((i, 1) :: r) a w :=
  Reg.ord_val ho hw hS (.bool true) (fun w' _ => by
    unfold execOp
    simp only [hop, hx, hy, Sem.run_bind, run_guard_sec, run_eql_sec, Result.andThen_ok, Sem.run_pure, h]) hK
theorem ord_neqF {l : List Oper} {i : Nat} {o : Oper} {r : List (Nat × Nat)} {S : World → Prop} {Q : Exit → Act → World → Prop} {a : Act} {w : World} (ho : Reg.nth l i = some o) (hw : Region.wanted o (yielded l.toArray a.tmps) = true) (hS : S w)
    (x y : Operand) (hop : o.op = .binOp .neq 24 x y 24) (s t : Sec) (hx : a.eval x = secV s) (hy : a.eval y = secV t) (h : secEq s t = true)
    (hK : Reg.wpOrd Try.prog l.toArray S Q r (a.put o.dst (.bool false)) w) : Reg.wpOrd Try.prog l.toArray S Q ((i, 1) :: r) a w :=
  Reg.ord_val ho hw hS (.bool false) (fun w' _ => by
    unfold execOp
    simp only [hop, hx, hy, Sem.run_bind, run_guard_sec, run_neq_sec, Result.andThen_ok, Sem.run_pure, h]
    rfl) hK
end

/-! ### The parity where one sector is another one -/
theorem par_cons (s : Sec) (l : List Sec) : par (s :: l) = sxor s (par l) := by
  have h := par_append [s] l
  rw [List.singleton_append] at h
  rw [h]
  congr 1
  funext j; simp [par, parFrom, sxor, zeroS]
theorem par_split (D : List Sec) (k : Nat) (hk : k < D.length) : par D = sxor (par (D.take k)) (sxor D[k] (par (D.drop (k + 1)))) := by
  rw [← par_cons, ← par_append, List.getElem_cons_drop, List.take_append_drop]
theorem par_set (D : List Sec) (k : Nat) (hk : k < D.length) (z : Sec) : par (D.set k z) = sxor (sxor D[k] (par D)) z := by
  rw [List.set_eq_take_append_cons_drop, if_pos hk, par_append, par_cons, par_split D k hk]
  funext j
  simp only [sxor]
  generalize par (D.take k) j = p
  generalize par (D.drop (k + 1)) j = q
  generalize D[k] j = x
  generalize z j = y
  rw [UInt8.xor_comm p (x ^^^ q), UInt8.xor_assoc x q p, ← UInt8.xor_assoc x x, UInt8.xor_self, UInt8.zero_xor, UInt8.xor_comm q p, UInt8.xor_assoc p q y, UInt8.xor_comm q y]
end Go.Proofs.Ytpmhhfphbackdaa
