/- The document's row in memory, and its walks: Has, Drop, Touch, Oldest, New, Clone. -/
import Derived.Test.YtbbdbcgmeffchaaOwn
import Derived.Deep.CutBlock
import Derived.Deep.AppendLies
namespace Go.Proofs.Ytbbdbcgmeffchaa
open Go.RowKit
set_option linter.unusedSimpArgs false

structure RefAt (w : World) (base g : Nat) (v : Value) (bs : List Int) (F : Nat → Prop) : Prop where
  row : w.heap[g]? = some (.cells #[v] 39)
  own : OwnI w base v bs
  foot : F g ∧ ∀ k, v.ownBlock = some k → F k
  low : ∀ k, F k → base ≤ k ∧ k < w.heap.size
def Ref (w : World) (base g : Nat) (bs : List Int) (F : Nat → Prop) : Prop := ∃ v, RefAt w base g v bs F
theorem RefAt.keep {w w' : World} {base g : Nat} {v : Value} {bs : List Int} {F : Nat → Prop} (h : RefAt w base g v bs F) (hs : w.heap.size ≤ w'.heap.size) (hk : ∀ k, F k → w'.heap[k]? = w.heap[k]?) : RefAt w' base g v bs F := by
  refine ⟨by rw [hk g h.foot.1]; exact h.row, ?_, h.foot, fun k hF => ⟨(h.low k hF).1, Nat.lt_of_lt_of_le (h.low k hF).2 hs⟩⟩
  obtain ⟨h1, h2⟩ := h.own
  refine ⟨h1, ?_⟩
  rcases h2 with h2 | ⟨q, cap, cur, rfl, hb, hg, hr⟩
  · exact .inl h2
  · exact .inr ⟨q, cap, cur, rfl, hb, by rw [hk q (h.foot.2 q rfl)]; exact hg, hr⟩
theorem Ref.upd {w w' : World} {base g : Nat} {bs : List Int} {F G : Nat → Prop} (h : Ref w base g bs F) (hu : Upd G w w') (hd : ∀ k, F k → ¬ G k) : Ref w' base g bs F := by
  obtain ⟨v, h⟩ := h
  exact ⟨v, h.keep hu.size fun k hF => hu.block k (h.low k hF).2 (hd k hF)⟩
theorem Ref.step {w w' : World} {base g : Nat} {bs : List Int} {F : Nat → Prop} (h : Ref w base g bs F) (hb : Below w.heap.size w w') : Ref w' base g bs F :=
  h.upd (Upd.of_below hb fun _ => False) fun _ _ h => h
theorem Ref.low {w : World} {base g : Nat} {bs : List Int} {F : Nat → Prop} (h : Ref w base g bs F) : ∀ k, F k → base ≤ k ∧ k < w.heap.size := by
  obtain ⟨v, h⟩ := h
  exact h.low
theorem Ref.down {w : World} {base base' g : Nat} {bs : List Int} {F : Nat → Prop} (h : Ref w base g bs F) (hb : base' ≤ base) : Ref w base' g bs F := by
  obtain ⟨v, h⟩ := h
  exact ⟨v, h.row, h.own.down hb, h.foot, fun k hF => ⟨Nat.le_trans hb (h.low k hF).1, (h.low k hF).2⟩⟩
theorem RefAt.cell {w : World} {base g : Nat} {v : Value} {bs : List Int} {F : Nat → Prop} (h : RefAt w base g v bs F) : w.cell? ⟨g, 0, none⟩ = some v := by rw [cell_of_row _ _ _ _ _ _ h.row]; rfl
theorem RefAt.frozen {w : World} {base g : Nat} {v : Value} {bs : List Int} {F : Nat → Prop} (h : RefAt w base g v bs F) : w.frozen? ⟨g, 0, none⟩ = false := frozen_of_row _ _ _ _ _ h.row
section
variable {ops : Array Oper} {rest : List Oper} {o : Oper} {a : Act} {W : World} {Q : Exit → Act → World → Prop}
/-- One int appended to an own slice: it lies where it lay, or in a new block. -/
theorem wl_apL (hg : o.guard = none) (s x : Operand) (ho : o.op = .call { callee := .builtin .append, args := #[s, x], argTypes := #[22, 22] }) (base : Nat) (v : Value) (l : List Int) (hs : a.eval s = v) (hown : OwnI W base v l)
    (g : Nat) (hx : a.eval x = .slice (some ⟨g, 0, none⟩) 1 1) (p : Int) (hu : W.cell? ⟨g, 0, none⟩ = some (.int .i64 p)) (hn : l.length ≤ 100000) (hbase : base ≤ W.heap.size)
    (hK : ∀ q c W', OwnI W' base (.slice (some ⟨q, 0, none⟩) (l.length + 1) c) (l ++ [p]) → W.grownBy W' v.ownBlock → (v.ownBlock = some q ∨ q = W.heap.size) → wpList Try.prog ops Q rest (a.put o.dst (.slice (some ⟨q, 0, none⟩) (l.length + 1) c)) W') : wpList Try.prog ops Q (o :: rest) a W := by
  obtain ⟨i, hi, hz0, hz1, hz2⟩ := infoI
  refine wpList_append_lies W hg s x 22 ho base 3 i _ 1 8 Try.underlying22 hi hz0 hz1 hz2 rfl (by omega) v l.length _ hs hown ⟨g, 0, none⟩ 1 1 [.int .i64 p] hx rfl ?_ ?_ (by omega) (by unfold maxLen; omega) (by omega) hbase _ rfl ?_
  · intro j y hj
    match j, hj with
    | 0, hj => cases hj; exact hu
  · intro y hy
    rw [List.mem_singleton] at hy
    subst hy
    rfl
  · intro q c W' h1 h2 h3 _
    refine hK q c W' ?_ h2 h3
    unfold OwnI
    rw [List.length_append, List.map_append]
    exact h1
/-- A whole list appended to an own slice. -/
theorem wl_apM (hg : o.guard = none) (s x : Operand) (ho : o.op = .call { callee := .builtin .append, args := #[s, x], argTypes := #[22, 22] }) (base : Nat) (v : Value) (l m : List Int) (hs : a.eval s = v) (hown : OwnI W base v l)
    (ad : Option Addr) (n c : Nat) (hx : a.eval x = .slice ad n c) (hI : IsI W (.slice ad n c) m) (hno : ad = none → c = 0) (hn : l.length ≤ 100000) (hm : m.length ≤ 100000) (hbase : base ≤ W.heap.size)
    (hK : ∀ v' W', OwnI W' base v' (l ++ m) → W.grownBy W' v.ownBlock → wpList Try.prog ops Q rest (a.put o.dst v') W') : wpList Try.prog ops Q (o :: rest) a W := by
  obtain ⟨i, hi, hz0, hz1, hz2⟩ := infoI
  obtain ⟨a', c', hv, _, hlc, hat⟩ := hI
  simp only [Value.slice.injEq] at hv
  obtain ⟨rfl, rfl, rfl⟩ := hv
  cases ad with
  | none =>
    obtain rfl := hno rfl
    have h0 : m = [] := List.eq_nil_of_length_eq_zero (by omega)
    subst h0
    refine wpList_append_own_none hg s x 22 ho base 3 i 1 Try.underlying22 hi v l.length _ hs hown hx ?_
    exact hK v W (by rw [List.append_nil]; exact hown) ⟨rfl, rfl, rfl, Nat.le_refl _, fun _ _ _ => rfl⟩
  | some ad =>
    refine wpList_append_own W hg s x 22 ho base 3 i _ 1 8 Try.underlying22 hi hz0 hz1 hz2 rfl (by omega) v l.length _ hs hown ad m.length _ (m.map (Value.int .i64)) hx (by rw [List.length_map, Nat.mul_one]) ?_ ?_ (by unfold maxLen; omega) (by omega) hbase ?_
    · intro j y hj
      rw [List.getElem?_map] at hj
      cases hmj : m[j]? with
      | none => rw [hmj] at hj; cases hj
      | some z =>
        rw [hmj] at hj
        obtain ⟨hlt, hz⟩ := List.getElem?_eq_some_iff.1 hmj
        obtain ⟨b, o, hb, hc⟩ := hat (by omega)
        cases hb
        have := hc j hlt
        rw [addr_add, this, hz]
        exact hj
    · intro y hy
      obtain ⟨z, _, rfl⟩ := List.mem_map.1 hy
      rfl
    · intro v' W' h1 h2 _
      refine hK v' W' ?_ h2
      unfold OwnI
      rw [List.length_append, List.map_append]
      exact h1
end
theorem OwnI.none {w : World} {base : Nat} {l : List Int} {n c : Nat} (h : OwnI w base (.slice none n c) l) : c = 0 := by
  obtain ⟨_, h2⟩ := h
  rcases h2 with ⟨h, _⟩ | ⟨q, cap, cur, h, _⟩
  · simp only [Value.slice.injEq] at h
    exact h.2.2
  · simp at h
/-- Another list is laid into the row. -/
theorem RefAt.lay {w : World} {base g : Nat} {v v' : Value} {bs' : List Int} {F : Nat → Prop} (hrow : w.heap[g]? = some (.cells #[v] 39)) (hgF : F g) (hlow : ∀ k, F k → base ≤ k ∧ k < w.heap.size) (ho : OwnI w base v' bs') :
    RefAt (w.setCell ⟨g, 0, none⟩ v') base g v' bs' (fun k => F k ∨ v'.ownBlock = some k) ∧ Upd F w (w.setCell ⟨g, 0, none⟩ v') := by
  have hne : ∀ k, v'.ownBlock = some k → k ≠ g := by
    intro k hk e
    subst e
    obtain ⟨_, h2⟩ := ho
    rcases h2 with ⟨rfl, _⟩ | ⟨q, cap, cur, rfl, _, hg, _⟩
    · cases hk
    · cases hk
      rw [hrow] at hg
      cases hg
  refine ⟨⟨heap_setCell_same w g 0 _ _ v' hrow, ?_, ⟨.inl hgF, fun k hk => .inr hk⟩, fun k hF => ?_⟩, (Upd.refl F w).setCell g 0 v' hgF⟩
  · obtain ⟨h1, h2⟩ := ho
    refine ⟨h1, ?_⟩
    rcases h2 with h2 | ⟨q, cap, cur, rfl, hb, hg, hr⟩
    · exact .inl h2
    · exact .inr ⟨q, cap, cur, rfl, hb, by rw [Below.heap_setCell _ _ _ _ (hne q rfl)]; exact hg, hr⟩
  · rw [World.size_setCell]
    rcases hF with hF | hF
    · exact hlow k hF
    · exact ho.block k hF
theorem size22 (w : World) : (sizeOf 22).run Try.prog w = .ok 1 w := by kernel_rfl
theorem size3 (w : World) : (sizeOf 3).run Try.prog w = .ok 1 w := by kernel_rfl
theorem not_mem_take_succ {bs : List Int} {n : Int} {k : Nat} (hk : k < bs.length) (h : n ∉ bs.take k) (hn : bs[k] ≠ n) : n ∉ bs.take (k + 1) := by
  rw [List.take_succ_eq_append_getElem hk, List.mem_append, List.mem_singleton]
  rintro (h1 | h1)
  · exact h h1
  · exact hn h1.symm
set_option maxHeartbeats 1000000 in
theorem rhas_any (w : World) (base g : Nat) (bs : List Int) (F : Nat → Prop) (n : Int) (h : Ref w base g bs F) :
    Calls Try.prog 19 #[ptr g, .int .i64 n] w fun e w' => e = .returned (.bool (bs.contains n)) ∧ w = w' := by
  obtain ⟨v, h⟩ := h
  have hc := h.cell
  have hI := h.own.isI
  obtain ⟨a, c, rfl, hm, _⟩ := hI.form
  unfold maxLen at hm
  clear h
  go_enter Try.func19, Try.ntmps19
  go_wp2_with fail
  go_loopw [5] (fun i wr => ∃ k : Nat, k ≤ bs.length ∧ i = .int .i64 k ∧ w = wr ∧ Hid (n ∉ bs.take k)) (fun i _ => bs.length - (intOf i).toNat)
  case atStart => exact ⟨0, by omega, rfl, rfl, Lib.hid (by simp)⟩
  case round =>
    obtain ⟨k, hk, rfl, rfl, hn⟩ := hrel
    by_cases hlt : k < bs.length
    · obtain ⟨b, o, rfl, hat⟩ := IsI.at hI (by omega)
      have hck := hat k hlt
      have hnk := not_mem_take_succ hlt hn.out
      have hmem := List.getElem_mem hlt
      generalize bs[k] = x at *
      clear hat
      by_cases hxy : x = n
      · have hct : bs.contains n = true := by rw [← hxy]; simpa using hmem
        have HC := Lib.hid hct
        have hxb : (x == n) = true := by simpa using hxy
        clear hnk hmem hct hn hxy
        go_wp2_with fail
        exact ret_tmp rfl (.bool true) rfl rfl ⟨by rw [HC.out], rfl⟩
      · have hxb : (x == n) = false := by simpa using hxy
        have HN := Lib.hid (hnk hxy)
        clear hnk hmem hn hxy
        go_wp2_with fail
        go_roundw
        case rel => exact ⟨k + 1, by omega, by go_num, trivial, HN⟩
        case measure => simp [intOf]; omega
    · obtain rfl : k = bs.length := by omega
      have hct : bs.contains n = false := by
        rw [List.take_length] at hn
        simpa [Hid] using hn
      have HC := Lib.hid hct
      clear hn hct
      go_wp2_with fail
      exact ret_tmp rfl (.bool false) rfl rfl ⟨by rw [HC.out], rfl⟩
theorem rnew_any (w : World) : Calls Try.prog 17 #[] w fun e w' => ∃ g F, e = .returned (ptr g) ∧ Ref w' w.heap.size g [] F ∧ Below w.heap.size w w' := by
  go_enter Try.func17, Try.ntmps17
  go_wp2_with fail
  refine ret_tmp rfl _ rfl rfl ⟨w.heap.size, fun k => k = w.heap.size, rfl, ⟨.slice none 0 0, heap_alloc_new w _, OwnI.nil _ _, ⟨rfl, fun k hk => by cases hk⟩, fun k hF => ?_⟩, below_alloc w _⟩
  subst hF
  simp
set_option maxHeartbeats 1000000 in
theorem rdrop_any (w : World) (base g : Nat) (bs : List Int) (F : Nat → Prop) (n : Int) (h : Ref w base g bs F) (hn : bs.length ≤ 1000) :
    Calls Try.prog 18 #[ptr g, .int .i64 n] w fun e w' => e = .returned (.bool (bs.contains n)) ∧ (∃ F', Ref w' base g (bs.filter (· != n)) F' ∧ ∀ k, F' k → F k ∨ w.heap.size ≤ k) ∧ Upd F w w' := by
  go_enter Try.func18, Try.ntmps18
  go_wp2_with fail
  refine (rhas_any _ _ g _ _ n h).mono ?_
  rintro e W1 ⟨rfl, rfl⟩
  obtain ⟨v, h⟩ := h
  obtain ⟨t, ht⟩ : ∃ t, t = bs.contains n := ⟨_, rfl⟩
  rw [← ht]
  have HT := Lib.hid ht
  clear ht
  go_wp2_with fail
  have hb0 := below_alloc w (.cells #[] 3)
  have ho0 : OwnI (w.alloc (.cells #[] 3)) w.heap.size (.slice (some ⟨w.heap.size, 0, none⟩) 0 0) [] := ⟨rfl, .inr ⟨w.heap.size, 0, #[], rfl, Nat.le_refl _, heap_alloc_new w _, Nat.le_refl _, by unfold maxLen; omega, rfl, rfl⟩⟩
  go_loopw [6, 7] (fun s6 i wr => ∃ k : Nat, k ≤ bs.length ∧ i = .int .i64 k ∧ OwnI wr w.heap.size s6 ((bs.take k).filter (· != n)) ∧ Below w.heap.size w wr) (fun _ i _ => bs.length - (intOf i).toNat)
  case atStart => exact ⟨0, by omega, rfl, ho0, hb0⟩
  case round =>
    clear hb0 ho0
    obtain ⟨k, hk, rfl, ho, hst⟩ := hrel
    have hc := Below.at hst h.cell
    have hI := h.own.isI
    obtain ⟨a, c, rfl, hm, _⟩ := hI.form
    unfold maxLen at hm
    by_cases hlt : k < bs.length
    · obtain ⟨b, o, rfl, hat⟩ := IsI.at hI (by omega)
      have hck := Below.at hst (hat k hlt)
      have hls := filter_take bs n k hlt
      generalize bs[k] = x at *
      have HS := Lib.hid hls
      clear hls hat hI
      by_cases hxy : x = n
      · have hm' := HS.out
        rw [if_pos hxy, List.append_nil] at hm'
        have HM := Lib.hid hm'
        have hxb : (x != n) = false := by simpa using hxy
        clear hm' hxy
        go_wp2_with fail
        go_roundw
        case rel => exact ⟨k + 1, by omega, by go_num, by rw [HM.out]; exact ho, hst⟩
        case measure => simp [intOf]; omega
      · have hm' := HS.out
        rw [if_neg hxy] at hm'
        have HM := Lib.hid hm'
        have hxb : (x != n) = true := by simpa using hxy
        have hfl : ((bs.take k).filter (· != n)).length ≤ 1000 := by
          refine Nat.le_trans (List.length_filter_le _ _) ?_
          rw [List.length_take]
          omega
        have HF := Lib.hid hfl
        clear hm' hxy hfl
        go_wp2_with (at_builtin; refine stop ?_)
        unfold Stop
        have hb4 := below_alloc wr (.cells #[.int .i64 x] 3)
        have hw4 := heap_alloc_new wr (.cells #[.int .i64 x] 3)
        have hu4 : (wr.alloc (.cells #[.int .i64 x] 3)).cell? ⟨wr.heap.size, 0, none⟩ = some (.int .i64 x) := by rw [cell_of_row _ _ _ _ _ _ hw4]; rfl
        have hown4 := ho.step hb4
        have hst4 := hst.trans (hb4.mono hst.size)
        clear ho hst hc hck hb4 hw4
        generalize wr.alloc (.cells #[.int .i64 x] 3) = W4 at *
        refine wl_apI rfl _ _ rfl w.heap.size _ ((bs.take k).filter (· != n)) (by simp [Act.eval]) hown4 wr.heap.size (by simp [Act.eval]) x hu4 (by have := HF.out; omega) hst4.size ?_
        intro v5 W5 hown5 hg5
        rw [← HM.out] at hown5
        have hst5 := below_own hst4 hown4 hst4.size hg5
        clear hown4 hst4 hg5 hu4
        go_frame
        go_wp2_with fail
        go_roundw
        case rel => exact ⟨k + 1, by omega, by go_num, hown5, hst5⟩
        case measure => simp [intOf]; omega
    · obtain rfl : k = bs.length := by omega
      rw [List.take_length] at ho
      have hlow := h.low
      have hgb : base ≤ w.heap.size := Nat.le_trans (h.low g h.foot.1).1 (Nat.le_of_lt (h.low g h.foot.1).2)
      have h1 := h.keep hst.size fun q hF => hst.block q (h.low q hF).2
      obtain ⟨h2, hu2⟩ := RefAt.lay h1.row h1.foot.1 h1.low (ho.down hgb)
      have hfz := h1.frozen
      have hnew := fun q hq => (ho.block q hq).1
      obtain ⟨a6, c6, rfl, hm6, _⟩ := ho.isI.form
      have hu3 : Upd F w _ := (Upd.of_below hst F).trans hu2 fun _ _ hF => hF
      clear h h1 ho hu2 hI hlow hgb
      go_wp2_with (with_reducible refine wl_st rfl size22 _ _ rfl ⟨g, 0, none⟩ _ _ rfl rfl rfl hc hfz ?_; go_frame)
      refine ret_tmp rfl (.bool t) rfl rfl ⟨by rw [HT.out], ⟨_, ⟨_, h2⟩, fun k hk => ?_⟩, hu3⟩
      rcases hk with hk | hk
      · exact .inl hk
      · exact .inr (hnew k hk)
set_option maxHeartbeats 1000000 in
theorem rtouch_any (w : World) (base g : Nat) (bs : List Int) (F : Nat → Prop) (n : Int) (h : Ref w base g bs F) (hn : bs.length ≤ 1000) :
    Calls Try.prog 23 #[ptr g, .int .i64 n] w fun e w' => e = .returned (.tuple #[]) ∧ (∃ F', Ref w' base g (bs.filter (· != n) ++ [n]) F' ∧ ∀ k, F' k → F k ∨ w.heap.size ≤ k) ∧ Upd F w w' := by
  have hfl : (bs.filter (· != n)).length ≤ 1000 := Nat.le_trans (List.length_filter_le _ _) hn
  go_enter Try.func23, Try.ntmps23
  go_wp2_with fail
  refine (rdrop_any _ _ g _ _ n h hn).mono ?_
  rintro e W1 ⟨rfl, ⟨F1, ⟨v, h1⟩, hF1⟩, hu1⟩
  have hz := hu1.size
  clear h hn
  obtain ⟨fs, hfs⟩ : ∃ fs, fs = bs.filter (· != n) := ⟨_, rfl⟩
  rw [← hfs] at h1 hfl
  have HFS := Lib.hid hfs
  clear hfs
  have hc := h1.cell
  obtain ⟨a, c, rfl, hm, _⟩ := h1.own.isI.form
  go_wp2_with (at_builtin; refine stop ?_)
  unfold Stop
  have hb4 := below_alloc W1 (.cells #[.int .i64 n] 3)
  have hw4 := heap_alloc_new W1 (.cells #[.int .i64 n] 3)
  have hu4 : (W1.alloc (.cells #[.int .i64 n] 3)).cell? ⟨W1.heap.size, 0, none⟩ = some (.int .i64 n) := by rw [cell_of_row _ _ _ _ _ _ hw4]; rfl
  have h4 := h1.keep hb4.size fun q hF => hb4.block q (h1.low q hF).2
  have hz4 := hb4.size
  have hu14 := hu1.trans (Upd.of_below hb4 fun _ => False) fun _ _ hf => hf.elim
  clear h1 hc hb4 hw4 hu1
  generalize W1.alloc (.cells #[.int .i64 n] 3) = W4 at *
  have hbase : base ≤ W4.heap.size := Nat.le_trans (h4.low g h4.foot.1).1 (Nat.le_of_lt (h4.low g h4.foot.1).2)
  refine wl_apL rfl _ _ rfl base _ fs (by simp [Act.eval]) h4.own W1.heap.size (by simp [Act.eval]) n hu4 (by omega) hbase ?_
  intro q c5 W5 hown5 hg5 hlie
  have hne : some g ≠ (Value.slice a fs.length c).ownBlock := by
    intro e
    obtain ⟨_, h2⟩ := h4.own
    rcases h2 with ⟨h2, _⟩ | ⟨q', cap, cur, h2, _, hgg, _⟩
    · rw [h2] at e; cases e
    · rw [h2] at e
      cases e
      have := h4.row
      rw [hgg] at this
      cases this
  have hrow5 : W5.heap[g]? = some (.cells #[.slice a fs.length c] 39) := by rw [hg5.block g (h4.low g h4.foot.1).2 hne]; exact h4.row
  have hlow5 : ∀ k, F1 k → base ≤ k ∧ k < W5.heap.size := fun k hF => ⟨(h4.low k hF).1, Nat.lt_of_lt_of_le (h4.low k hF).2 hg5.size⟩
  obtain ⟨h6, hu6⟩ := RefAt.lay hrow5 h4.foot.1 hlow5 hown5
  have hc5 : W5.cell? ⟨g, 0, none⟩ = some (.slice a fs.length c) := by rw [cell_of_row _ _ _ _ _ _ hrow5]; rfl
  have hfz : W5.frozen? ⟨g, 0, none⟩ = false := frozen_of_row _ _ _ _ _ hrow5
  have hu5 : Upd F1 W4 W5 := ⟨hg5.os, hg5.tape, hg5.output, hg5.size, fun k hk hn => hg5.block k hk (fun e => hn (h4.foot.2 k e.symm))⟩
  have hu56 := hu5.trans hu6 fun _ _ h => h
  have hfin : Upd F w _ := hu14.trans hu56 fun k hk hf => by
    rcases hF1 k hf with h | h
    · exact h
    · omega
  have hlies : ∀ k, F1 k ∨ (Value.slice (some ⟨q, 0, none⟩) (fs.length + 1) c5).ownBlock = some k → F k ∨ w.heap.size ≤ k := fun k hk => by
    rcases hk with hk | hk
    · exact hF1 k hk
    · cases hk
      rcases hlie with h | h
      · exact hF1 q (h4.foot.2 q h)
      · exact .inr (show w.heap.size ≤ q by omega)
  clear hown5 hg5 hlie hu5 hu6 hu56 hu14 h4 hu4 hne
  go_frame
  go_wp2_with (with_reducible refine wl_st rfl size22 _ _ rfl ⟨g, 0, none⟩ _ _ rfl rfl rfl hc5 hfz ?_; go_frame)
  refine bodyPost_end (by simp [results, Try.results23, go_sem]) rfl ⟨rfl, ⟨_, by rw [← HFS.out]; exact ⟨_, h6⟩, hlies⟩, hfin⟩
set_option maxHeartbeats 1000000 in
theorem roldest_any (w : World) (base g : Nat) (bs : List Int) (F : Nat → Prop) (n : Int) (h : Ref w base g bs F) (hn : bs.length ≤ 1000) :
    Calls Try.prog 20 #[ptr g, .int .i64 n] w fun e w' => ∃ v, e = .returned v ∧ OwnI w' w.heap.size v (bs.take n.toNat) ∧ Below w.heap.size w w' := by
  obtain ⟨v, h⟩ := h
  go_enter Try.func20, Try.ntmps20
  go_wp2_with fail
  have hb0 := below_alloc w (.cells #[] 3)
  have ho0 : OwnI (w.alloc (.cells #[] 3)) w.heap.size (.slice (some ⟨w.heap.size, 0, none⟩) 0 0) [] := ⟨rfl, .inr ⟨w.heap.size, 0, #[], rfl, Nat.le_refl _, heap_alloc_new w _, Nat.le_refl _, by unfold maxLen; omega, rfl, rfl⟩⟩
  go_loopw [5, 6] (fun s5 i wr => ∃ k : Nat, k ≤ bs.length ∧ k ≤ n.toNat ∧ i = .int .i64 k ∧ OwnI wr w.heap.size s5 (bs.take k) ∧ Below w.heap.size w wr) (fun _ i _ => bs.length - (intOf i).toNat)
  case atStart => exact ⟨0, by omega, by omega, rfl, ho0, hb0⟩
  case round =>
    clear hb0 ho0
    obtain ⟨k, hk, hkn, rfl, ho, hst⟩ := hrel
    have hc := Below.at hst h.cell
    have hI := h.own.isI
    obtain ⟨a, c, rfl, hm, _⟩ := hI.form
    unfold maxLen at hm
    by_cases hlt : k < bs.length
    · by_cases hltn : (k : Int) < n
      · obtain ⟨b, o, rfl, hat⟩ := IsI.at hI (by omega)
        have hck := Below.at hst (hat k hlt)
        have hls := List.take_succ_eq_append_getElem hlt
        generalize bs[k] = x at *
        have HM := Lib.hid hls
        have hfl : (bs.take k).length = k := by rw [List.length_take]; omega
        have HF := Lib.hid hfl
        clear hls hat hI hfl
        go_wp2_with (at_builtin; refine stop ?_)
        unfold Stop
        have hb4 := below_alloc wr (.cells #[.int .i64 x] 3)
        have hw4 := heap_alloc_new wr (.cells #[.int .i64 x] 3)
        have hu4 : (wr.alloc (.cells #[.int .i64 x] 3)).cell? ⟨wr.heap.size, 0, none⟩ = some (.int .i64 x) := by rw [cell_of_row _ _ _ _ _ _ hw4]; rfl
        have hown4 := ho.step hb4
        have hst4 := hst.trans (hb4.mono hst.size)
        clear ho hst hc hck hb4 hw4
        generalize wr.alloc (.cells #[.int .i64 x] 3) = W4 at *
        refine wl_apI rfl _ _ rfl w.heap.size _ (bs.take k) (by simp [Act.eval]) hown4 wr.heap.size (by simp [Act.eval]) x hu4 (by have := HF.out; omega) hst4.size ?_
        intro v5 W5 hown5 hg5
        rw [← HM.out] at hown5
        have hst5 := below_own hst4 hown4 hst4.size hg5
        clear hown4 hst4 hg5 hu4
        go_frame
        go_wp2_with fail
        go_roundw
        case rel => exact ⟨k + 1, by omega, by omega, by go_num, hown5, hst5⟩
        case measure => simp [intOf]; omega
      · have e : n.toNat = k := by omega
        have HE := Lib.hid e
        clear h hI e
        have hle : n ≤ (k : Int) := by omega
        go_wp2_with fail
        exact ret_tmp rfl _ rfl rfl ⟨_, rfl, by rw [HE.out]; exact ho, hst⟩
    · obtain rfl : k = bs.length := by omega
      have e : bs.take n.toNat = bs.take bs.length := by rw [List.take_length, List.take_of_length_le (by omega)]
      have HE := Lib.hid e
      clear h hI e
      go_wp2_with fail
      exact ret_tmp rfl _ rfl rfl ⟨_, rfl, by rw [HE.out]; exact ho, hst⟩
theorem rclone_any (w : World) (base g : Nat) (bs : List Int) (F : Nat → Prop) (h : Ref w base g bs F) (hn : bs.length ≤ 1000) :
    Calls Try.prog 21 #[ptr g] w fun e w' => ∃ g' F', e = .returned (ptr g') ∧ Ref w' w.heap.size g' bs F' ∧ Below w.heap.size w w' := by
  obtain ⟨v, h⟩ := h
  have hc := h.cell
  have hI := h.own.isI
  obtain ⟨a, c, rfl, hm, _⟩ := hI.form
  have hno : a = none → c = 0 := fun e => by
    have := h.own
    rw [e] at this
    exact this.none
  unfold maxLen at hm
  clear h
  go_enter Try.func21, Try.ntmps21
  have hb0 := below_alloc w (.cells #[] 3)
  have hc0 := Below.at hb0 hc
  go_wp2_with (at_builtin; refine stop ?_)
  unfold Stop
  have ho0 : OwnI (w.alloc (.cells #[] 3)) w.heap.size (.slice (some ⟨w.heap.size, 0, none⟩) 0 0) [] := ⟨rfl, .inr ⟨w.heap.size, 0, #[], rfl, Nat.le_refl _, heap_alloc_new w _, Nat.le_refl _, by unfold maxLen; omega, rfl, rfl⟩⟩
  have hI0 := hI.step hb0
  clear hc hc0 hI
  generalize w.alloc (.cells #[] 3) = W0 at *
  refine wl_apM rfl _ _ rfl w.heap.size _ [] bs (by simp [Act.eval]) ho0 a bs.length c (by simp [Act.eval]) hI0 hno (by simp) (by omega) hb0.size ?_
  intro v5 W5 hown5 hg5
  rw [List.nil_append] at hown5
  have hst5 := below_own hb0 ho0 hb0.size hg5
  clear ho0 hI0 hb0 hg5 hno
  obtain ⟨a5, c5, rfl, _, _⟩ := hown5.isI.form
  go_frame
  go_wp2_with fail
  have hb6 := below_alloc W5 (.cells #[.slice a5 bs.length c5] 39)
  have hz := hst5.size
  refine ret_tmp rfl _ rfl rfl ⟨W5.heap.size, fun k => k = W5.heap.size ∨ (Value.slice a5 bs.length c5).ownBlock = some k, rfl, ⟨_, heap_alloc_new W5 _, hown5.step hb6, ⟨.inl rfl, fun k hk => .inr hk⟩, fun k hk => ?_⟩, hst5.trans (hb6.mono hst5.size)⟩
  rcases hk with rfl | hk
  · exact ⟨hz, by simp⟩
  · have h1 := hown5.block k hk
    have h2 := hb6.size
    exact ⟨h1.1, by omega⟩
theorem take_touch {bs : List Int} (h : bs.Nodup) (k : Nat) (hk : k < bs.length) : (bs.take k).filter (· != bs[k]) ++ [bs[k]] = bs.take (k + 1) := by
  have hn : bs[k] ∉ bs.take k := by
    intro hm
    have h2 : (bs.take k ++ bs.drop k).Nodup := by rw [List.take_append_drop]; exact h
    rw [List.drop_eq_getElem_cons hk] at h2
    exact (List.nodup_append.1 h2).2.2 _ hm _ List.mem_cons_self rfl
  rw [filter_ne hn, List.take_succ_eq_append_getElem hk]
set_option maxHeartbeats 1000000 in
theorem clone_any (w : World) (base r : Nat) (bs : List Int) (F : Nat → Prop) (h : Row w base r bs F) (hn : bs.length ≤ 1000) :
    Calls Try.prog 22 #[ptr r] w fun e w' => ∃ r' F', e = .returned (ptr r') ∧ Row w' w.heap.size r' bs F' ∧ Below w.heap.size w w' := by
  have hnd := Lib.hid h.nodup
  have hwf := h.wf
  go_enter Try.func22, Try.ntmps22
  go_wp2_with fail
  refine (new_any _).mono ?_
  rintro e W1 ⟨r1, F1, rfl, hr1, hst⟩
  replace h := h.step hst
  go_wp2_with fail
  refine (all_any _ _ r _ _ h (by omega)).mono ?_
  rintro e W2 ⟨v2, rfl, hown2, hb2⟩
  have hap := hown2.apart fun k hF => (hr1.low k hF).2
  replace hown2 := hown2.down hst.size
  replace hr1 := hr1.step hb2
  replace hst := hst.trans (hb2.mono hst.size)
  clear h hb2
  obtain ⟨a, c, rfl, hm, _⟩ := hown2.isI.form
  unfold maxLen at hm
  go_wp2_with fail
  go_loopw [10] (fun i wr => ∃ k : Nat, k ≤ bs.length ∧ i = .int .i64 k ∧ ∃ F, Row wr w.heap.size r1 (bs.take k) F ∧ OwnI wr w.heap.size (.slice a bs.length c) bs ∧ Apart F (.slice a bs.length c) ∧ Below w.heap.size w wr) (fun i _ => bs.length - (intOf i).toNat)
  case atStart => exact ⟨0, by omega, rfl, F1, hr1, hown2, hap, hst⟩
  case round =>
    clear hr1 hown2 hap hst
    obtain ⟨k, hk, rfl, F, hr, hown, hap, hst⟩ := hrel
    by_cases hlt : k < bs.length
    · obtain ⟨b, o, rfl, hat⟩ := IsI.at hown.isI (by omega)
      have hck := hat k hlt
      have hwk := hwf _ (List.getElem_mem hlt)
      have hlen : (bs.take k).length ≤ bs.length := by rw [List.length_take]; omega
      have hsu := Lib.hid (take_touch hnd.out k hlt)
      generalize bs[k] = x at *
      clear hat
      go_wp2_with fail
      refine (touch_any _ _ r1 _ _ x hr hwk (by omega)).mono ?_
      rintro e W10 ⟨rfl, ⟨F10, hr10, hF10⟩, hu10⟩
      have hst10 := hu10.below hst hst.size (fun q hF => (hr.low q hF).1)
      obtain ⟨hown10, hap10⟩ := hown.touched hap hu10 hF10
      have hr10' : Row W10 w.heap.size r1 (bs.take (k + 1)) F10 := by rw [← hsu.out]; exact hr10
      clear hr hst hu10 hF10 hr10 hck hown hap
      go_wp2_with fail
      go_roundw
      case rel => exact ⟨k + 1, by omega, by go_num, F10, hr10', hown10, hap10, hst10⟩
      case measure => simp [intOf]; omega
    · obtain rfl : k = bs.length := by omega
      have hr' : Row wr w.heap.size r1 bs F := by rw [List.take_length] at hr; exact hr
      clear hr hown hap hnd hwf
      go_wp2_with fail
      exact ret_tmp rfl _ rfl rfl ⟨r1, F, rfl, hr', hst⟩
end Go.Proofs.Ytbbdbcgmeffchaa
