/- Slices of ints; the walks of Oldest and All. -/
import Derived.Test.YtbbdbcgmeffchaaRing5
import Derived.LaidEqlPtr
import Derived.Outline
namespace Go.Proofs.Ytbbdbcgmeffchaa
open Go.RowKit
set_option linter.unusedSimpArgs false

/-- A slice value that reads as these ints. -/
def IsI (w : World) (v : Value) (l : List Int) : Prop :=
  ∃ a c, v = .slice a l.length c ∧ l.length ≤ maxLen ∧ l.length ≤ c ∧ (0 < l.length → ∃ b o, a = some ⟨b, o, none⟩ ∧ ∀ i (h : i < l.length), w.cell? ⟨b, o + i, none⟩ = some (.int .i64 l[i]))
theorem IsI.step {W W1 : World} {v : Value} {l : List Int} (h : IsI W v l) (hb : Below W.heap.size W W1) : IsI W1 v l := by
  obtain ⟨a, c, hv, hm, hc, hs⟩ := h
  refine ⟨a, c, hv, hm, hc, fun h0 => ?_⟩
  obtain ⟨b, o, ha, hat⟩ := hs h0
  exact ⟨b, o, ha, fun i hi => Below.at hb (hat i hi)⟩
theorem IsI.upd {W W1 : World} {v : Value} {l : List Int} {G : Nat → Prop} (h : IsI W v l) (hu : Upd G W W1) (hd : ∀ k, v.ownBlock = some k → ¬ G k) : IsI W1 v l := by
  obtain ⟨a, c, rfl, hm, hc, hs⟩ := h
  refine ⟨a, c, rfl, hm, hc, fun h0 => ?_⟩
  obtain ⟨b, o, rfl, hat⟩ := hs h0
  refine ⟨b, o, rfl, fun i hi => ?_⟩
  rw [World.cell?_of_block (w := W) (hu.block b (World.block_lt_of_cell? _ _ (hat i hi)) (hd b rfl))]
  exact hat i hi
def OwnI (w : World) (base : Nat) (v : Value) (l : List Int) : Prop := w.ownsRow base 3 1 v l.length (l.map (Value.int .i64))
theorem OwnI.nil (w : World) (base : Nat) : OwnI w base (.slice none 0 0) [] := World.ownsRow_nil _ _ _ _
theorem OwnI.isI {w : World} {base : Nat} {v : Value} {l : List Int} (h : OwnI w base v l) : IsI w v l := by
  obtain ⟨h1, h2⟩ := h
  rcases h2 with ⟨rfl, h0⟩ | ⟨g, cap, cur, rfl, _, hg, hc, hm, hs, ht⟩
  · exact ⟨none, 0, by rw [h0], by rw [h0]; exact Nat.zero_le _, by omega, fun h => by omega⟩
  · refine ⟨_, cap, rfl, by omega, hc, fun _ => ⟨g, 0, rfl, fun i hi => ?_⟩⟩
    have e : (l.map (Value.int .i64))[i]? = some (.int .i64 l[i]) := by rw [List.getElem?_map, List.getElem?_eq_getElem hi]; rfl
    rw [cell_of_row w g _ _ _ _ hg, Nat.zero_add, ← e, ← ht, List.getElem?_take, if_pos (by omega), Array.getElem?_toList]
theorem OwnI.step {w w' : World} {base : Nat} {v : Value} {l : List Int} (h : OwnI w base v l) (hb : Below w.heap.size w w') : OwnI w' base v l :=
  World.ownsRow.kept (row := none) h ⟨hb.os, hb.tape, hb.output, hb.size, fun k hk _ => hb.block k hk⟩ (by cases hh : v.ownBlock <;> simp)
theorem OwnI.upd {w w' : World} {base : Nat} {v : Value} {l : List Int} {G : Nat → Prop} (h : OwnI w base v l) (hu : Upd G w w') (hd : ∀ k, v.ownBlock = some k → ¬ G k) : OwnI w' base v l := by
  obtain ⟨h1, h2⟩ := h
  refine ⟨h1, ?_⟩
  rcases h2 with h2 | ⟨g, cap, cur, rfl, hb, hg, hr⟩
  · exact .inl h2
  · exact .inr ⟨g, cap, cur, rfl, hb, by rw [hu.block g (Array.getElem?_eq_some_iff.1 hg).1 (hd g rfl)]; exact hg, hr⟩
theorem OwnI.block {w : World} {base : Nat} {v : Value} {l : List Int} (h : OwnI w base v l) : ∀ k, v.ownBlock = some k → base ≤ k ∧ k < w.heap.size := h.lt
theorem infoI : ∃ i, Try.prog.info? 3 = some i ∧ i.zero = some (.int .i64 0) ∧ i.size = 1 ∧ i.bytes = 8 := info_parts (by kernel_rfl)
section
variable {ops : Array Oper} {rest : List Oper} {o : Oper} {a : Act} {W : World} {Q : Exit → Act → World → Prop}
/-- One int appended to an own slice; the new one lies in a block of its own. -/
theorem wl_apI (hg : o.guard = none) (s x : Operand) (ho : o.op = .call { callee := .builtin .append, args := #[s, x], argTypes := #[22, 22] }) (base : Nat) (v : Value) (l : List Int) (hs : a.eval s = v) (hown : OwnI W base v l)
    (g : Nat) (hx : a.eval x = .slice (some ⟨g, 0, none⟩) 1 1) (p : Int) (hu : W.cell? ⟨g, 0, none⟩ = some (.int .i64 p)) (hn : l.length ≤ 100000) (hbase : base ≤ W.heap.size)
    (hK : ∀ v' W', OwnI W' base v' (l ++ [p]) → W.grownBy W' v.ownBlock → wpList Try.prog ops Q rest (a.put o.dst v') W') : wpList Try.prog ops Q (o :: rest) a W := by
  obtain ⟨i, hi, hz0, hz1, hz2⟩ := infoI
  refine wpList_append_own W hg s x 22 ho base 3 i _ 1 8 Try.underlying22 hi hz0 hz1 hz2 rfl (by omega) v l.length _ hs hown ⟨g, 0, none⟩ 1 1 [.int .i64 p] hx rfl ?_ ?_ (by unfold maxLen; omega) (by omega) hbase ?_
  · intro j y hj
    match j, hj with
    | 0, hj => cases hj; exact hu
  · intro y hy
    rw [List.mem_singleton] at hy
    subst hy
    rfl
  · intro v' W' h1 h2 _
    refine hK v' W' ?_ h2
    unfold OwnI
    rw [List.length_append, List.map_append]
    exact h1
theorem info49 : ∃ j, Try.prog.info? 49 = some j ∧ j.size = 3 := by
  have h : (Try.prog.info? 49).map (·.size) = some 3 := by kernel_rfl
  cases e : Try.prog.info? 49 with
  | none => rw [e] at h; cases h
  | some j => rw [e] at h; exact ⟨j, rfl, by simpa using h⟩
theorem run_neqp_same (g : Nat) (w : World) : (binOp .neq 46 (ptr g) (ptr g)).run Try.prog w = .ok (.bool false) w := by
  obtain ⟨j, hj, _⟩ := info49
  have h : ∀ d : Nat, (Op.equalIn (d + 1) 46 (ptr g) (ptr g)).run Try.prog w = .ok true w := fun d => by
    simp [Op.equalIn, run_underlying Try.underlying46, sizeOf, typeInfo, hj, run_sameAddr_same]
  simp only [binOp]
  simp [Op.equal, Op.maxDepth, h 9999]
theorem run_neqp_other {x y : Nat} {w : World} (hx : Node w x) (hy : Node w y) (hne : x ≠ y) : (binOp .neq 46 (ptr x) (ptr y)).run Try.prog w = .ok (.bool true) w := by
  obtain ⟨j, hj, hs⟩ := info49
  obtain ⟨ca, ta, hx, _⟩ := hx
  obtain ⟨cb, tb, hy, _⟩ := hy
  have h : ∀ d : Nat, (Op.equalIn (d + 1) 46 (ptr x) (ptr y)).run Try.prog w = .ok false w := fun d => by
    simp [Op.equalIn, run_underlying Try.underlying46, sizeOf, typeInfo, hj, hs, run_sameAddr_other w (a := ⟨x, 0, none⟩) (b := ⟨y, 0, none⟩) (at_ne (.inl hne)) hx hy]
  simp only [binOp]
  simp [Op.equal, Op.maxDepth, h 9999]
theorem wl_neqp (hw : Region.wanted o (yielded ops a.tmps) = true) (x y : Operand) (ho : o.op = .binOp .neq 46 x y 46) (g h : Nat) (v : Bool) (hx : a.eval x = ptr g) (hy : a.eval y = ptr h) (hrun : (binOp .neq 46 (ptr g) (ptr h)).run Try.prog W = .ok (.bool v) W)
    (hK : wpList Try.prog ops Q rest (a.put o.dst (.bool v)) W) : wpList Try.prog ops Q (o :: rest) a W := by
  refine wpList_want hw fun K hK' => ?_
  have g1 : (eqGuard .neq 46 x y (ptr g) (ptr h)).run Try.prog W = .ok () W := rfl
  unfold Oper.wp execOp
  simp only [ho, hx, hy, Sem.run_bind, g1, hrun, Result.andThen_ok, Sem.run_pure]
  exact hK' _ _ hK
end
theorem adj_get {R : Nat → Nat → Prop} : ∀ (l : List Nat) (i : Nat) (h : i + 1 < l.length), Adj R l → R l[i] l[i + 1]
  | x :: y :: l, 0, _, ha => ha.1
  | x :: y :: l, i + 1, h, ha => adj_get (y :: l) i (by simpa using h) ha.2
/-- The links in order, and the end behind them. -/
def nth (c : Nat) (ps : List (Nat × Int)) (k : Nat) : Nat := (gsOf ps ++ [c]).getD k c
theorem RowAt.way {w : World} {base r c m : Nat} {ps : List (Nat × Int)} {F : Nat → Prop} (h : RowAt w base r c m ps F) : w.cell? ⟨c, 2, none⟩ = some (ptr (nth c ps 0)) ∧ nth c ps ps.length = c ∧
    ∀ k, k < ps.length → w.cell? ⟨nth c ps k, 0, none⟩ = some (.int .i64 ((bsOf ps).getD k 0)) ∧ w.cell? ⟨nth c ps k, 2, none⟩ = some (ptr (nth c ps (k + 1))) ∧ nth c ps k ≠ c ∧ Node w (nth c ps k) := by
  have hlen : (c :: (gsOf ps ++ [c])).length = ps.length + 2 := by simp [gsOf]
  have hget : ∀ k (hk : k + 1 < (c :: (gsOf ps ++ [c])).length), (c :: (gsOf ps ++ [c]))[k + 1] = nth c ps k := fun k hk => by
    unfold nth
    rw [List.getElem_cons_succ, List.getD_eq_getElem?_getD, List.getElem?_eq_getElem]; rfl
  refine ⟨?_, ?_, fun k hk => ⟨?_, ?_, ?_, ?_⟩⟩
  · have h1 := adj_get _ 0 (by rw [hlen]; omega) h.links
    rw [hget] at h1
    exact h1.1
  · unfold nth
    rw [List.getD_eq_getElem?_getD, List.getElem?_append_right (by simp [gsOf])]
    simp [gsOf]
  · have e : nth c ps k = (ps[k]).1 := by
      unfold nth
      rw [List.getD_eq_getElem?_getD, List.getElem?_append_left (by simpa [gsOf] using hk), List.getElem?_map, List.getElem?_eq_getElem hk]; rfl
    have e2 : (bsOf ps).getD k 0 = (ps[k]).2 := by rw [List.getD_eq_getElem?_getD, List.getElem?_map, List.getElem?_eq_getElem hk]; rfl
    rw [e, e2]
    exact h.vals _ (List.getElem_mem hk)
  · have h1 := adj_get _ (k + 1) (by rw [hlen]; omega) h.links
    rw [hget, hget] at h1
    exact h1.1
  · have e : nth c ps k = (ps[k]).1 := by
      unfold nth
      rw [List.getD_eq_getElem?_getD, List.getElem?_append_left (by simpa [gsOf] using hk), List.getElem?_map, List.getElem?_eq_getElem hk]; rfl
    rw [e]
    intro e'
    exact (List.nodup_cons.1 h.nodup).1 (e' ▸ List.mem_map_of_mem (List.getElem_mem hk))
  · have e : nth c ps k = (ps[k]).1 := by
      unfold nth
      rw [List.getD_eq_getElem?_getD, List.getElem?_append_left (by simpa [gsOf] using hk), List.getElem?_map, List.getElem?_eq_getElem hk]; rfl
    rw [e]
    exact h.nodes _ (List.mem_cons_of_mem _ (List.mem_map_of_mem (List.getElem_mem hk)))
theorem take_succ_getD (l : List Int) (k : Nat) (h : k < l.length) : l.take (k + 1) = l.take k ++ [l.getD k 0] := by
  rw [List.take_succ_eq_append_getElem h, List.getD_eq_getElem?_getD, List.getElem?_eq_getElem h]; rfl
set_option maxHeartbeats 1000000 in
theorem oldest_any (w : World) (base r : Nat) (bs : List Int) (F : Nat → Prop) (n : Int) (h : Row w base r bs F) (hn : bs.length ≤ 1000) :
    Calls Try.prog 13 #[ptr r, .int .i64 n] w fun e w' => ∃ v, e = .returned v ∧ OwnI w' w.heap.size v (bs.take n.toNat) ∧ Below w.heap.size w w' := by
  obtain ⟨c, m, ps, h, rfl⟩ := h
  obtain ⟨hc0, hc1⟩ := h.cells
  obtain ⟨hw0, hwe, hway⟩ := h.way
  have hlen : (bsOf ps).length = ps.length := by simp [bsOf]
  have hnc := h.nodes c List.mem_cons_self
  have HL := Lib.hid hlen
  have HE := Lib.hid hwe
  have HW := Lib.hid hway
  have hps : ps.length ≤ 1000 := by omega
  clear h hc1 hlen hwe hway hn
  generalize nth c ps = L at *
  generalize bsOf ps = bs at *
  generalize ps.length = N at *
  go_enter Try.func13, Try.ntmps13
  go_wp2_with fail
  go_loopw [5, 6] (fun out l wr => ∃ k : Nat, k ≤ N ∧ k ≤ n.toNat ∧ l = ptr (L k) ∧ OwnI wr w.heap.size out (bs.take k) ∧ Below w.heap.size w wr) (fun out _ _ => N - (match out with | .slice _ k _ => k | _ => 0))
  case atStart => exact ⟨0, by omega, by omega, rfl, OwnI.nil _ _, Below.refl _ _⟩
  case round =>
    obtain ⟨k, hk, hkn, rfl, hown, hst⟩ := hrel
    have hc := Below.at hst hc0
    have htk : (bs.take k).length = k := by rw [List.length_take, HL.out]; omega
    obtain ⟨ao, co, rfl, _, _, _⟩ := hown.isI
    rw [htk] at hown ⊢
    have HT := Lib.hid htk
    clear htk
    have nc : Node wr c := hnc.keep (hst.block c hnc.lt)
    by_cases hlt : k < N
    · obtain ⟨d0, d2, dne, nk⟩ := HW.out k hlt
      have htk1 := Lib.hid (take_succ_getD bs k (by rw [HL.out]; exact hlt))
      generalize bs.getD k 0 = bk at *
      replace d0 := Below.at hst d0
      replace d2 := Below.at hst d2
      have nk0 := nk
      replace nk : Node wr (L k) := nk.keep (hst.block _ nk.lt)
      have hneq := run_neqp_other nk nc dne
      have hkl := nk0.lt
      clear nk nc dne nk0
      by_cases hltn : (k : Int) < n
      · go_wp2_with (first
          | (with_reducible refine wl_neqp rfl _ _ rfl (L k) c true rfl rfl hneq ?_; go_frame)
          | (at_builtin; refine stop ?_))
        unfold Stop
        have hb4 := below_alloc wr (.cells #[.int .i64 bk] 3)
        have hw4 := heap_alloc_new wr (.cells #[.int .i64 bk] 3)
        have hu4 : (wr.alloc (.cells #[.int .i64 bk] 3)).cell? ⟨wr.heap.size, 0, none⟩ = some (.int .i64 bk) := by rw [cell_of_row _ _ _ _ _ _ hw4]; rfl
        have hown4 := hown.step hb4
        have hst4 := hst.trans (hb4.mono hst.size)
        replace d2 := Below.at hb4 d2
        have hne5 : some (L k) ≠ Value.ownBlock (.slice ao k co) := fun e => by have := (hown.block _ e.symm).1; omega
        clear hown hst d0 hc hneq hb4 hw4
        generalize wr.alloc (.cells #[.int .i64 bk] 3) = W4 at *
        refine wl_apI rfl _ _ rfl w.heap.size _ (bs.take k) (by simp [Act.eval]) hown4 wr.heap.size (by simp [Act.eval]) bk hu4 (by rw [HT.out]; omega) hst4.size ?_
        intro v5 W5 hown5 hg5
        rw [← htk1.out] at hown5
        have hst5 : Below w.heap.size w W5 := hst4.grown hg5 hst4.size (fun q hq => (hown4.block q hq).1)
        have d2' : W5.cell? ⟨L k, 2, none⟩ = some (ptr (L (k + 1))) := hg5.cell d2 (fun e => hne5 e)
        clear hown4 hst4 hg5 hu4 d2
        go_frame
        go_wp2_with fail
        have hl5 : (bs.take (k + 1)).length = k + 1 := by rw [List.length_take, HL.out]; omega
        obtain ⟨a5, c5, rfl, _, _, _⟩ := hown5.isI
        go_roundw
        case rel => exact ⟨k + 1, by omega, by omega, rfl, hown5, hst5⟩
        case measure => simp only; rw [hl5]; omega
      · have hle : n ≤ (k : Int) := by omega
        go_wp2_with (first
          | (with_reducible refine wl_neqp rfl _ _ rfl (L k) c true rfl rfl hneq ?_; go_frame))
        refine ret_tmp rfl _ rfl rfl ⟨_, rfl, ?_, hst⟩
        rw [show n.toNat = k by omega]
        exact hown
    · obtain rfl : k = N := by omega
      rw [HE.out]
      have hneq := run_neqp_same c wr
      go_wp2_with (first
        | (with_reducible refine wl_neqp rfl _ _ rfl c c false rfl rfl hneq ?_; go_frame))
      refine ret_tmp rfl _ rfl rfl ⟨_, rfl, ?_, hst⟩
      have e : bs.take n.toNat = bs.take k := by rw [List.take_of_length_le (by rw [HL.out]; omega), List.take_of_length_le (by rw [HL.out]; omega)]
      rw [e]
      exact hown
theorem all_any (w : World) (base r : Nat) (bs : List Int) (F : Nat → Prop) (h : Row w base r bs F) (hn : bs.length ≤ 1000) :
    Calls Try.prog 11 #[ptr r] w fun e w' => ∃ v, e = .returned v ∧ OwnI w' w.heap.size v bs ∧ Below w.heap.size w w' := by
  go_enter Try.func11, Try.ntmps11
  go_wp2_with fail
  refine (len_any w base r bs F h).mono ?_
  rintro e w1 ⟨rfl, rfl⟩
  go_wp2_with fail
  refine (oldest_any w base r bs F bs.length h hn).mono ?_
  rintro e w1 ⟨v, rfl, h1, h2⟩
  rw [show ((bs.length : Int)).toNat = bs.length by omega, List.take_length] at h1
  clear h
  go_wp2_with fail
  exact ret_tmp rfl _ rfl rfl ⟨v, rfl, h1, h2⟩
set_option maxHeartbeats 1000000 in
/-- Are two lists the same? -/
theorem numbers_any (w : World) (u v : Value) (k l : List Int) (hk : IsI w u k) (hl : IsI w v l) :
    Calls Try.prog 15 #[u, v] w fun e w' => e = .returned (.bool (decide (k = l))) ∧ Below w.heap.size w w' := by
  obtain ⟨a, c, rfl, hm, _, hk⟩ := hk
  obtain ⟨a', c', rfl, _, _, hl⟩ := hl
  unfold maxLen at hm
  by_cases he : k.length = l.length
  · rw [← he]
    have HE := Lib.hid he
    clear he
    go_enter Try.func15, Try.ntmps15
    go_wp2_with fail
    go_loopw [5] (fun i wr => ∃ j : Nat, j ≤ k.length ∧ i = .int .i64 j ∧ k.take j = l.take j ∧ Below w.heap.size w wr) (fun i _ => k.length - (intOf i).toNat)
    case atStart => exact ⟨0, by omega, rfl, rfl, Below.refl _ _⟩
    case round =>
      obtain ⟨j, hj, rfl, heq, hst⟩ := hrel
      have HQ := Lib.hid heq
      clear heq
      by_cases hlt : j < k.length
      · obtain ⟨b, o, rfl, hat⟩ := hk (by omega)
        obtain ⟨b', o', rfl, hat'⟩ := hl (by rw [← HE.out]; omega)
        have hlt' : j < l.length := by rw [← HE.out]; exact hlt
        have h1 := Below.at hst.drew (hat j hlt)
        have h2 := Below.at hst.drew (hat' j hlt')
        have hxy : k[j] = l[j] → k.take (j + 1) = l.take (j + 1) := fun e => by
          rw [List.take_succ_eq_append_getElem hlt, List.take_succ_eq_append_getElem hlt', HQ.out, e]
        have hxn : k[j] ≠ l[j] → k ≠ l := fun e e' => by subst e'; exact e rfl
        have HX := Lib.hid hxy
        have HN := Lib.hid hxn
        have hstD := hst.drew
        clear hxy hxn hst
        generalize k[j] = x at *
        generalize l[j] = y at *
        go_wp2_with fail
        refine Reg.region_ord (S := fun w' => w' = wr.drew) [(0, 1), (1, 1), (2, 1), (3, 1), (4, 1), (5, 1), (6, 1), (7, 1), (8, 1)] (by kernel_rfl) (by kernel_rfl) (by decide) (by kernel_rfl) (fun _ _ _ _ _ h => h) ?_
        generalize wr.drew = W at *
        refine Reg.ord_move rfl _ rfl rfl rfl ?_; simp only [Act.put, Act.eval, List.setIfInBounds_toArray, List.set_cons_succ, List.set_cons_zero, Array.getD_eq_getD_getElem?, List.getElem?_toArray, List.getElem?_cons_succ, List.getElem?_cons_zero, Option.getD_some]
        refine Reg.ord_move rfl _ rfl rfl rfl ?_; simp only [Act.put, Act.eval, List.setIfInBounds_toArray, List.set_cons_succ, List.set_cons_zero, Array.getD_eq_getD_getElem?, List.getElem?_toArray, List.getElem?_cons_succ, List.getElem?_cons_zero, Option.getD_some]
        refine Reg.ord_val rfl rfl rfl (.pointer (some ⟨b, o + j, none⟩)) (fun w' _ => by go_simp) ?_; simp only [Act.put, Act.eval, List.setIfInBounds_toArray, List.set_cons_succ, List.set_cons_zero, Array.getD_eq_getD_getElem?, List.getElem?_toArray, List.getElem?_cons_succ, List.getElem?_cons_zero, Option.getD_some]
        refine Reg.ord_val rfl rfl rfl (.int .i64 x) (fun w' h => by subst h; exact run_ld agg3 _ rfl (by simp [Act.eval]) h1) ?_; simp only [Act.put, Act.eval, List.setIfInBounds_toArray, List.set_cons_succ, List.set_cons_zero, Array.getD_eq_getD_getElem?, List.getElem?_toArray, List.getElem?_cons_succ, List.getElem?_cons_zero, Option.getD_some]
        refine Reg.ord_move rfl _ rfl rfl rfl ?_; simp only [Act.put, Act.eval, List.setIfInBounds_toArray, List.set_cons_succ, List.set_cons_zero, Array.getD_eq_getD_getElem?, List.getElem?_toArray, List.getElem?_cons_succ, List.getElem?_cons_zero, Option.getD_some]
        refine Reg.ord_move rfl _ rfl rfl rfl ?_; simp only [Act.put, Act.eval, List.setIfInBounds_toArray, List.set_cons_succ, List.set_cons_zero, Array.getD_eq_getD_getElem?, List.getElem?_toArray, List.getElem?_cons_succ, List.getElem?_cons_zero, Option.getD_some]
        refine Reg.ord_val rfl rfl rfl (.pointer (some ⟨b', o' + j, none⟩)) (fun w' _ => by go_simp) ?_; simp only [Act.put, Act.eval, List.setIfInBounds_toArray, List.set_cons_succ, List.set_cons_zero, Array.getD_eq_getD_getElem?, List.getElem?_toArray, List.getElem?_cons_succ, List.getElem?_cons_zero, Option.getD_some]
        refine Reg.ord_val rfl rfl rfl (.int .i64 y) (fun w' h => by subst h; exact run_ld agg3 _ rfl (by simp [Act.eval]) h2) ?_; simp only [Act.put, Act.eval, List.setIfInBounds_toArray, List.set_cons_succ, List.set_cons_zero, Array.getD_eq_getD_getElem?, List.getElem?_toArray, List.getElem?_cons_succ, List.getElem?_cons_zero, Option.getD_some]
        refine Reg.ord_val rfl rfl rfl (.bool (x != y)) (fun w' _ => by go_simp) ?_; simp only [Act.put, Act.eval, List.setIfInBounds_toArray, List.set_cons_succ, List.set_cons_zero, Array.getD_eq_getD_getElem?, List.getElem?_toArray, List.getElem?_cons_succ, List.getElem?_cons_zero, Option.getD_some]
        refine Reg.ord_nil ?_
        clear h1 h2
        by_cases hxy : x = y
        · subst hxy
          rw [show (x != x) = false by simp]
          go_wp2_with fail
          go_roundw
          case rel => exact ⟨j + 1, by omega, by go_num, HX.out rfl, hstD⟩
          case measure => simp [intOf]; omega
        · rw [show (x != y) = true by simpa using hxy]
          have hkl := HN.out hxy
          go_wp2_with fail
          exact ret_tmp rfl (.bool false) rfl rfl ⟨by rw [decide_eq_false hkl], hstD⟩
      · obtain rfl : j = k.length := by omega
        go_wp2
        have e := HQ.out
        rw [List.take_length, HE.out, List.take_length] at e
        exact ret_tmp rfl (.bool true) rfl rfl ⟨by rw [decide_eq_true e], hst⟩
  · have hd : k ≠ l := fun e => he (by rw [e])
    go_enter Try.func15, Try.ntmps15
    go_wp2
    exact ret_tmp rfl (.bool false) rfl rfl ⟨by rw [decide_eq_false hd], Below.refl _ _⟩
end Go.Proofs.Ytbbdbcgmeffchaa
