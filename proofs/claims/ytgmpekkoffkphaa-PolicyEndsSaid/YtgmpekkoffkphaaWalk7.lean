/- The walk of 'both'. -/
import Derived.Test.YtgmpekkoffkphaaWalk6
namespace Go.Proofs.Ytgmpekkoffkphaa
open Go.RowKit flt
set_option linter.unusedSimpArgs false

theorem OwnP.grown {W W' : World} {base : Nat} {x y : Value} {l m : List Fr} (h : OwnP W base y m) (hx : OwnC W base x l) (hg : W.grownBy W' x.ownBlock) : OwnP W' base y m := by
  obtain ⟨h1, h2⟩ := h
  refine ⟨h1, ?_⟩
  rcases h2 with h2 | ⟨g, cap, cur, rfl, hb, hgy, hr⟩
  · exact .inl h2
  · refine .inr ⟨g, cap, cur, rfl, hb, ?_, hr⟩
    rw [hg.block g (Array.getElem?_eq_some_iff.1 hgy).1 ?_]
    · exact hgy
    · intro e
      obtain ⟨xs, ⟨_, h3⟩, _⟩ := hx
      rcases h3 with ⟨rfl, _⟩ | ⟨g', cap', cur', rfl, _, hgx, _⟩
      · cases e
      · simp only [Value.ownBlock, Option.some.injEq] at e
        subst e
        rw [hgx] at hgy
        cases hgy
theorem OwnC.grown {W W' : World} {base : Nat} {x y : Value} {l m : List Fr} (h : OwnC W base x l) (hy : OwnP W base y m) (hg : W.grownBy W' y.ownBlock) : OwnC W' base x l := by
  obtain ⟨xs, ⟨h1, h2⟩, h3⟩ := h
  refine ⟨xs, ⟨h1, ?_⟩, h3⟩
  rcases h2 with h2 | ⟨g, cap, cur, rfl, hb, hgy, hr⟩
  · exact .inl h2
  · refine .inr ⟨g, cap, cur, rfl, hb, ?_, hr⟩
    rw [hg.block g (Array.getElem?_eq_some_iff.1 hgy).1 ?_]
    · exact hgy
    · intro e
      obtain ⟨_, h3⟩ := hy
      rcases h3 with ⟨rfl, _⟩ | ⟨g', cap', cur', rfl, _, hgx, _⟩
      · cases e
      · simp only [Value.ownBlock, Option.some.injEq] at e
        subst e
        rw [hgx] at hgy
        cases hgy
theorem OwnP.step {W W' : World} {base : Nat} {y : Value} {m : List Fr} (h : OwnP W base y m) (hb : Below W.heap.size W W') : OwnP W' base y m := by
  obtain ⟨h1, h2⟩ := h
  refine ⟨h1, ?_⟩
  rcases h2 with h2 | ⟨g, cap, cur, rfl, hb', hgy, hr⟩
  · exact .inl h2
  · exact .inr ⟨g, cap, cur, rfl, hb', by rw [hb.block g (Array.getElem?_eq_some_iff.1 hgy).1]; exact hgy, hr⟩
theorem OwnC.step {W W' : World} {base : Nat} {y : Value} {m : List Fr} (h : OwnC W base y m) (hb : Below W.heap.size W W') : OwnC W' base y m := by
  obtain ⟨xs, ⟨h1, h2⟩, h3⟩ := h
  refine ⟨xs, ⟨h1, ?_⟩, h3⟩
  rcases h2 with h2 | ⟨g, cap, cur, rfl, hb', hgy, hr⟩
  · exact .inl h2
  · exact .inr ⟨g, cap, cur, rfl, hb', by rw [hb.block g (Array.getElem?_eq_some_iff.1 hgy).1]; exact hgy, hr⟩
theorem OwnC.block {W : World} {base : Nat} {x : Value} {l : List Fr} (h : OwnC W base x l) : ∀ k, x.ownBlock = some k → base ≤ k := by
  intro k e
  obtain ⟨xs, ⟨_, h3⟩, _⟩ := h
  rcases h3 with ⟨rfl, _⟩ | ⟨g', cap', cur', rfl, hb, hgx, _⟩
  · cases e
  · simp only [Value.ownBlock, Option.some.injEq] at e
    omega
theorem OwnP.block {W : World} {base : Nat} {x : Value} {l : List Fr} (h : OwnP W base x l) : ∀ k, x.ownBlock = some k → base ≤ k := by
  intro k e
  obtain ⟨_, h3⟩ := h
  rcases h3 with ⟨rfl, _⟩ | ⟨g', cap', cur', rfl, hb, hgx, _⟩
  · cases e
  · simp only [Value.ownBlock, Option.some.injEq] at e
    omega
/-- The fractions of the loads at the head of the list. -/
def frs (K : List Fr) (k : Nat) : List Fr := (K.take k).map fun p => (num p.1 p.2, den p.2)
theorem frs_succ (K : List Fr) (k : Nat) (h : k < K.length) : frs K (k + 1) = frs K k ++ [(num K[k].1 K[k].2, den K[k].2)] := by
  rw [frs, frs, List.take_succ_eq_append_getElem h, List.map_append]; rfl
theorem frs_len (K : List Fr) (k : Nat) : (frs K k).length ≤ k := by simp [frs]; omega
theorem frs_ok (K : List Fr) (k : Nat) : ∀ p ∈ frs K k, Fr.ok p := by
  intro p hp
  obtain ⟨q, _, rfl⟩ := List.mem_map.1 hp
  have h1 := num_le q.1 q.2
  have h2 := den_le q.2
  exact ⟨h1.1, by show num q.1 q.2 ≤ _; omega, h2.1, h2.2⟩

theorem ord_callx {P : Program} {l : List Oper} {S : World → Prop} {Q : Exit → Act → World → Prop} {a : Act} {w : World} {i : Nat} {o : Oper} {r : List (Nat × Nat)} (ho : Reg.nth l i = some o) (hw : Region.wanted o (yielded l.toArray a.tmps) = true) (f : FuncId) (args : Array Value) (hop : (execOp a.eval o).run P w = .ok (.enter f args) w) {R : Value → World → Prop}
    (hc : Calls P f args w fun e w' => ∃ v, e = .returned v ∧ R v w') (h : ∀ v w', R v w' → S w' ∧ Reg.wpOrd P l.toArray S Q r (a.put o.dst v) w') : Reg.wpOrd P l.toArray S Q ((i, 0) :: r) a w := by
  have ho' : l.toArray[i]? = some o := (Reg.nth_eq l i).symm.trans ho
  show wpOp P l.toArray Q i _ a w
  unfold wpOp
  simp only [ho', hw, if_true]
  refine .inl ?_
  unfold Oper.wp
  rw [hop]
  exact hc.mono fun e w' he => by
    obtain ⟨v, rfl, hR⟩ := he
    exact h v w' hR
theorem Below.owned {B : Nat} {w W W' : World} {v : Value} (h : Below B w W) (hg : W.grownBy W' v.ownBlock) (hb : ∀ k, v.ownBlock = some k → B ≤ k) (hB : B ≤ W.heap.size) : Below B w W' :=
  h.grown hg hB hb
theorem frx (a b : Int) (w : World) :
    Calls Try.prog 13 #[.int .i64 a, .int .i64 b] w fun e w' => ∃ v, e = .returned v ∧ (IsC v (num a b) (den b) ∧ w' = w) := (fraction_any a b w).mono fun _ _ ⟨⟨v, h1, h2⟩, h3⟩ => ⟨v, h1, h2, h3⟩
set_option maxHeartbeats 1000000 in
theorem both_some (b o c : Nat) (K : List Fr) (w : World) (hm : K.length ≤ maxLen) (hs : PsAt w b o K) :
    Calls Try.prog 9 #[.slice (some ⟨b, o, none⟩) K.length c] w fun e w' => ∃ x y, e = .returned (.tuple #[x, y]) ∧ OwnC w' w.heap.size x (frs K (min K.length 40)) ∧ OwnP w' w.heap.size y (frs K (min K.length 40)) ∧ Below w.heap.size w w' := by
  unfold maxLen at hm
  go_enter Try.func9, Try.ntmps9
  go_wp2_with fail
  go_loopw [4, 5, 6] (fun x y i wr => ∃ k : Nat, k ≤ K.length ∧ k ≤ 40 ∧ i = .int .i64 k ∧ OwnC wr w.heap.size x (frs K k) ∧ OwnP wr w.heap.size y (frs K k) ∧ Below w.heap.size w wr) (fun _ _ i _ => K.length - (intOf i).toNat)
  case atStart => exact ⟨0, by omega, by omega, rfl, ⟨[], World.ownsRow_nil _ _ _ _, rfl, fun i h => absurd h (Nat.not_lt_zero i)⟩, World.ownsRow_nil _ _ _ _, Below.refl _ _⟩
  case round =>
    obtain ⟨k, hk, hk40, rfl, hox, hoy, hst⟩ := hrel
    by_cases hlt : k < K.length
    · by_cases hl40 : k < 40
      · obtain ⟨c1, c2⟩ := hs k hlt
        have hsucc := Lib.hid (frs_succ K k hlt)
        have hfl := frs_len K k
        go_wp2_with fail
        have hoxD : OwnC wr.drew w.heap.size u4 (frs K k) := hox
        have hoyD : OwnP wr.drew w.heap.size u5 (frs K k) := hoy
        have hstD := hst.drew
        clear hox hoy hst
        refine Reg.region_ord (S := fun w' => Below w.heap.size w w') [(0, 1), (1, 1), (2, 1), (3, 1), (4, 1), (5, 1), (6, 1), (7, 1), (8, 1), (9, 1), (10, 1), (11, 0), (12, 0), (13, 0), (14, 0)] (by kernel_rfl) (by kernel_rfl) (by decide) (by kernel_rfl) (fun _ _ _ _ _ h => h) ?_
        generalize wr.drew = W at *
        refine Reg.ord_move rfl _ rfl rfl hstD ?_; simp only [Act.put, Act.eval, List.setIfInBounds_toArray, List.set_cons_succ, List.set_cons_zero, Array.getD_eq_getD_getElem?, List.getElem?_toArray, List.getElem?_cons_succ, List.getElem?_cons_zero, Option.getD_some]
        refine Reg.ord_move rfl _ rfl rfl hstD ?_; simp only [Act.put, Act.eval, List.setIfInBounds_toArray, List.set_cons_succ, List.set_cons_zero, Array.getD_eq_getD_getElem?, List.getElem?_toArray, List.getElem?_cons_succ, List.getElem?_cons_zero, Option.getD_some]
        refine Reg.ord_move rfl _ rfl rfl hstD ?_; simp only [Act.put, Act.eval, List.setIfInBounds_toArray, List.set_cons_succ, List.set_cons_zero, Array.getD_eq_getD_getElem?, List.getElem?_toArray, List.getElem?_cons_succ, List.getElem?_cons_zero, Option.getD_some]
        refine Reg.ord_val rfl rfl hstD (.pointer (some ⟨b, o + k * 2, none⟩)) (fun w' h => by go_simp) ?_; simp only [Act.put, Act.eval, List.setIfInBounds_toArray, List.set_cons_succ, List.set_cons_zero, Array.getD_eq_getD_getElem?, List.getElem?_toArray, List.getElem?_cons_succ, List.getElem?_cons_zero, Option.getD_some]
        refine Reg.ord_val rfl rfl hstD (.pointer (some ⟨b, o + k * 2, none⟩)) (fun w' h => by go_simp) ?_; simp only [Act.put, Act.eval, List.setIfInBounds_toArray, List.set_cons_succ, List.set_cons_zero, Array.getD_eq_getD_getElem?, List.getElem?_toArray, List.getElem?_cons_succ, List.getElem?_cons_zero, Option.getD_some]
        refine Reg.ord_val rfl rfl hstD (.int .i64 K[k].1) (fun w' h => run_load_i _ rfl (by simp [Act.eval]) (Below.at h c1)) ?_; simp only [Act.put, Act.eval, List.setIfInBounds_toArray, List.set_cons_succ, List.set_cons_zero, Array.getD_eq_getD_getElem?, List.getElem?_toArray, List.getElem?_cons_succ, List.getElem?_cons_zero, Option.getD_some]
        refine Reg.ord_move rfl _ rfl rfl hstD ?_; simp only [Act.put, Act.eval, List.setIfInBounds_toArray, List.set_cons_succ, List.set_cons_zero, Array.getD_eq_getD_getElem?, List.getElem?_toArray, List.getElem?_cons_succ, List.getElem?_cons_zero, Option.getD_some]
        refine Reg.ord_move rfl _ rfl rfl hstD ?_; simp only [Act.put, Act.eval, List.setIfInBounds_toArray, List.set_cons_succ, List.set_cons_zero, Array.getD_eq_getD_getElem?, List.getElem?_toArray, List.getElem?_cons_succ, List.getElem?_cons_zero, Option.getD_some]
        refine Reg.ord_val rfl rfl hstD (.pointer (some ⟨b, o + k * 2, none⟩)) (fun w' h => by go_simp) ?_; simp only [Act.put, Act.eval, List.setIfInBounds_toArray, List.set_cons_succ, List.set_cons_zero, Array.getD_eq_getD_getElem?, List.getElem?_toArray, List.getElem?_cons_succ, List.getElem?_cons_zero, Option.getD_some]
        refine Reg.ord_val rfl rfl hstD (.pointer (some ⟨b, o + k * 2 + 1, none⟩)) (fun w' h => by go_simp) ?_; simp only [Act.put, Act.eval, List.setIfInBounds_toArray, List.set_cons_succ, List.set_cons_zero, Array.getD_eq_getD_getElem?, List.getElem?_toArray, List.getElem?_cons_succ, List.getElem?_cons_zero, Option.getD_some]
        refine Reg.ord_val rfl rfl hstD (.int .i64 K[k].2) (fun w' h => run_load_i _ rfl (by simp [Act.eval]) (Below.at h c2)) ?_; simp only [Act.put, Act.eval, List.setIfInBounds_toArray, List.set_cons_succ, List.set_cons_zero, Array.getD_eq_getD_getElem?, List.getElem?_toArray, List.getElem?_cons_succ, List.getElem?_cons_zero, Option.getD_some]
        refine ord_callx rfl rfl 13 #[.int .i64 K[k].1, .int .i64 K[k].2] (by go_simp) (frx _ _ _) (fun v4 W4 hb4 => ⟨by rw [hb4.2]; exact hstD, ?_⟩)
        obtain ⟨⟨p4, q4, rfl, hp4, hq4⟩, rfl⟩ := hb4
        simp only [Act.put, Act.eval, List.setIfInBounds_toArray, List.set_cons_succ, List.set_cons_zero, Array.getD_eq_getD_getElem?, List.getElem?_toArray, List.getElem?_cons_succ, List.getElem?_cons_zero, Option.getD_some]
        refine Reg.ord_step rfl ?_
        refine wl_slC rfl _ rfl p4 q4 (by simp [Act.eval]) ?_
        have hst5 := hstD.trans ((below_alloc W4 (.cells #[.complex .f64 p4 q4] 33)).mono hstD.size)
        refine wpList_nil ⟨hst5, ?_⟩
        simp only [Act.put, Act.eval, List.setIfInBounds_toArray, List.set_cons_succ, List.set_cons_zero, Array.getD_eq_getD_getElem?, List.getElem?_toArray, List.getElem?_cons_succ, List.getElem?_cons_zero, Option.getD_some]
        have hox5 := hoxD.step (below_alloc W4 (.cells #[.complex .f64 p4 q4] 33))
        have hoy5 := hoyD.step (below_alloc W4 (.cells #[.complex .f64 p4 q4] 33))
        have hc5 : (W4.alloc (.cells #[.complex .f64 p4 q4] 33)).cell? ⟨W4.heap.size, 0, none⟩ = some (.complex .f64 p4 q4) := by rw [cell_of_row _ _ _ _ _ _ (heap_alloc_new W4 _)]; rfl
        clear hoxD hoyD hstD
        generalize W4.heap.size = g5 at *
        generalize W4.alloc (.cells #[.complex .f64 p4 q4] 33) = W5 at *
        refine Reg.ord_step rfl ?_
        refine wl_apC rfl _ _ rfl w.heap.size u4 (frs K k) (by simp [Act.eval]) hox5 g5 (by simp [Act.eval]) _ (num K[k].1 K[k].2, den K[k].2) hc5 ⟨_, _, rfl, hp4, hq4⟩ (by omega) hst5.size ?_
        intro v6 W6 hox6 hgr6
        have hoy6 := hoy5.grown hox5 hgr6
        have hst6 := Below.owned hst5 hgr6 hox5.block hst5.size
        clear hox5 hoy5 hst5 hgr6 hc5
        refine wpList_nil ⟨hst6, ?_⟩
        simp only [Act.put, Act.eval, List.setIfInBounds_toArray, List.set_cons_succ, List.set_cons_zero, Array.getD_eq_getD_getElem?, List.getElem?_toArray, List.getElem?_cons_succ, List.getElem?_cons_zero, Option.getD_some]
        refine Reg.ord_step rfl ?_
        go_wp2_with fail
        refine ⟨hst6, ?_⟩
        refine Reg.ord_nil ?_
        go_wp2_with fail
        have hoxD : OwnC W6.drew w.heap.size v6 _ := hox6
        have hoyD : OwnP W6.drew w.heap.size u5 (frs K k) := hoy6
        have hstD := hst6.drew
        clear hox6 hoy6 hst6
        refine Reg.region_ord (S := fun w' => Below w.heap.size w w') [(0, 1), (1, 1), (2, 1), (3, 1), (4, 1), (5, 1), (6, 1), (7, 1), (8, 1), (9, 1), (10, 1), (11, 0), (12, 0), (13, 0), (14, 0)] (by kernel_rfl) (by kernel_rfl) (by decide) (by kernel_rfl) (fun _ _ _ _ _ h => h) ?_
        generalize W6.drew = W at *
        refine Reg.ord_move rfl _ rfl rfl hstD ?_; simp only [Act.put, Act.eval, List.setIfInBounds_toArray, List.set_cons_succ, List.set_cons_zero, Array.getD_eq_getD_getElem?, List.getElem?_toArray, List.getElem?_cons_succ, List.getElem?_cons_zero, Option.getD_some]
        refine Reg.ord_move rfl _ rfl rfl hstD ?_; simp only [Act.put, Act.eval, List.setIfInBounds_toArray, List.set_cons_succ, List.set_cons_zero, Array.getD_eq_getD_getElem?, List.getElem?_toArray, List.getElem?_cons_succ, List.getElem?_cons_zero, Option.getD_some]
        refine Reg.ord_move rfl _ rfl rfl hstD ?_; simp only [Act.put, Act.eval, List.setIfInBounds_toArray, List.set_cons_succ, List.set_cons_zero, Array.getD_eq_getD_getElem?, List.getElem?_toArray, List.getElem?_cons_succ, List.getElem?_cons_zero, Option.getD_some]
        refine Reg.ord_val rfl rfl hstD (.pointer (some ⟨b, o + k * 2, none⟩)) (fun w' h => by go_simp) ?_; simp only [Act.put, Act.eval, List.setIfInBounds_toArray, List.set_cons_succ, List.set_cons_zero, Array.getD_eq_getD_getElem?, List.getElem?_toArray, List.getElem?_cons_succ, List.getElem?_cons_zero, Option.getD_some]
        refine Reg.ord_val rfl rfl hstD (.pointer (some ⟨b, o + k * 2, none⟩)) (fun w' h => by go_simp) ?_; simp only [Act.put, Act.eval, List.setIfInBounds_toArray, List.set_cons_succ, List.set_cons_zero, Array.getD_eq_getD_getElem?, List.getElem?_toArray, List.getElem?_cons_succ, List.getElem?_cons_zero, Option.getD_some]
        refine Reg.ord_val rfl rfl hstD (.int .i64 K[k].1) (fun w' h => run_load_i _ rfl (by simp [Act.eval]) (Below.at h c1)) ?_; simp only [Act.put, Act.eval, List.setIfInBounds_toArray, List.set_cons_succ, List.set_cons_zero, Array.getD_eq_getD_getElem?, List.getElem?_toArray, List.getElem?_cons_succ, List.getElem?_cons_zero, Option.getD_some]
        refine Reg.ord_move rfl _ rfl rfl hstD ?_; simp only [Act.put, Act.eval, List.setIfInBounds_toArray, List.set_cons_succ, List.set_cons_zero, Array.getD_eq_getD_getElem?, List.getElem?_toArray, List.getElem?_cons_succ, List.getElem?_cons_zero, Option.getD_some]
        refine Reg.ord_move rfl _ rfl rfl hstD ?_; simp only [Act.put, Act.eval, List.setIfInBounds_toArray, List.set_cons_succ, List.set_cons_zero, Array.getD_eq_getD_getElem?, List.getElem?_toArray, List.getElem?_cons_succ, List.getElem?_cons_zero, Option.getD_some]
        refine Reg.ord_val rfl rfl hstD (.pointer (some ⟨b, o + k * 2, none⟩)) (fun w' h => by go_simp) ?_; simp only [Act.put, Act.eval, List.setIfInBounds_toArray, List.set_cons_succ, List.set_cons_zero, Array.getD_eq_getD_getElem?, List.getElem?_toArray, List.getElem?_cons_succ, List.getElem?_cons_zero, Option.getD_some]
        refine Reg.ord_val rfl rfl hstD (.pointer (some ⟨b, o + k * 2 + 1, none⟩)) (fun w' h => by go_simp) ?_; simp only [Act.put, Act.eval, List.setIfInBounds_toArray, List.set_cons_succ, List.set_cons_zero, Array.getD_eq_getD_getElem?, List.getElem?_toArray, List.getElem?_cons_succ, List.getElem?_cons_zero, Option.getD_some]
        refine Reg.ord_val rfl rfl hstD (.int .i64 K[k].2) (fun w' h => run_load_i _ rfl (by simp [Act.eval]) (Below.at h c2)) ?_; simp only [Act.put, Act.eval, List.setIfInBounds_toArray, List.set_cons_succ, List.set_cons_zero, Array.getD_eq_getD_getElem?, List.getElem?_toArray, List.getElem?_cons_succ, List.getElem?_cons_zero, Option.getD_some]
        refine Reg.ord_call rfl rfl 14 #[.int .i64 K[k].1, .int .i64 K[k].2] (by go_simp) (rfraction_any _ _ _) (fun W7 hb7 => ⟨hstD.trans (hb7.mono hstD.size), ?_⟩)
        have hox7 := hoxD.step hb7
        have hoy7 := hoyD.step hb7
        have hst7 := hstD.trans (hb7.mono hstD.size)
        clear hoxD hoyD hstD hb7
        simp only [Act.put, Act.eval, List.setIfInBounds_toArray, List.set_cons_succ, List.set_cons_zero, Array.getD_eq_getD_getElem?, List.getElem?_toArray, List.getElem?_cons_succ, List.getElem?_cons_zero, Option.getD_some]
        refine Reg.ord_step rfl ?_
        refine wl_slP rfl _ rfl (num K[k].1 K[k].2) (den K[k].2) (by simp [Act.eval]) ?_
        have hst8 := hst7.trans ((below_alloc W7 (.cells (prC (num K[k].1 K[k].2) (den K[k].2)) 37)).mono hst7.size)
        refine wpList_nil ⟨hst8, ?_⟩
        simp only [Act.put, Act.eval, List.setIfInBounds_toArray, List.set_cons_succ, List.set_cons_zero, Array.getD_eq_getD_getElem?, List.getElem?_toArray, List.getElem?_cons_succ, List.getElem?_cons_zero, Option.getD_some]
        have hox8 := hox7.step (below_alloc W7 (.cells (prC (num K[k].1 K[k].2) (den K[k].2)) 37))
        have hoy8 := hoy7.step (below_alloc W7 (.cells (prC (num K[k].1 K[k].2) (den K[k].2)) 37))
        have hc8 : (W7.alloc (.cells (prC (num K[k].1 K[k].2) (den K[k].2)) 37)).cell? ⟨W7.heap.size, 0, none⟩ = some (.int .i64 (num K[k].1 K[k].2)) := by rw [cell_of_row _ _ _ _ _ _ (heap_alloc_new W7 _)]; rfl
        have hd8 : (W7.alloc (.cells (prC (num K[k].1 K[k].2) (den K[k].2)) 37)).cell? ⟨W7.heap.size, 1, none⟩ = some (.int .i64 (den K[k].2)) := by rw [cell_of_row _ _ _ _ _ _ (heap_alloc_new W7 _)]; rfl
        clear hox7 hoy7 hst7
        generalize W7.heap.size = g8 at *
        generalize W7.alloc (.cells (prC (num K[k].1 K[k].2) (den K[k].2)) 37) = W8 at *
        refine Reg.ord_step rfl ?_
        refine wl_apP rfl _ _ rfl w.heap.size u5 (frs K k) (by simp [Act.eval]) hoy8 g8 (by simp [Act.eval]) (num K[k].1 K[k].2, den K[k].2) hc8 hd8 (by omega) hst8.size ?_
        intro v9 W9 hoy9 hgr9
        have hox9 := hox8.grown hoy8 hgr9
        have hst9 := Below.owned hst8 hgr9 hoy8.block hst8.size
        clear hox8 hoy8 hst8 hgr9 hc8 hd8
        refine wpList_nil ⟨hst9, ?_⟩
        simp only [Act.put, Act.eval, List.setIfInBounds_toArray, List.set_cons_succ, List.set_cons_zero, Array.getD_eq_getD_getElem?, List.getElem?_toArray, List.getElem?_cons_succ, List.getElem?_cons_zero, Option.getD_some]
        refine Reg.ord_step rfl ?_
        go_wp2_with fail
        refine ⟨hst9, ?_⟩
        refine Reg.ord_nil ?_
        rw [← hsucc.out] at hox9 hoy9
        go_wp2_with fail
        go_roundw
        case rel => exact ⟨k + 1, by omega, by omega, by go_num, hox9, hoy9, hst9⟩
        case measure => simp [intOf]; omega
      · obtain rfl : k = 40 := by omega
        go_wp2
        refine bodyPost_ret (v := .tuple #[u4, u5]) (by simp [results, Try.results9, go_sem]) rfl ⟨u4, u5, rfl, ?_, ?_, hst⟩
        · rw [Nat.min_eq_right (by omega)]; exact hox
        · rw [Nat.min_eq_right (by omega)]; exact hoy
    · obtain rfl : k = K.length := by omega
      go_wp2
      refine bodyPost_ret (v := .tuple #[u4, u5]) (by simp [results, Try.results9, go_sem]) rfl ⟨u4, u5, rfl, ?_, ?_, hst⟩
      · rw [Nat.min_eq_left (by omega)]; exact hox
      · rw [Nat.min_eq_left (by omega)]; exact hoy
theorem both_any (v : Value) (K : List Fr) (w : World) (hs : IsPs w v K) :
    Calls Try.prog 9 #[v] w fun e w' => ∃ x y, e = .returned (.tuple #[x, y]) ∧ OwnC w' w.heap.size x (frs K (min K.length 40)) ∧ OwnP w' w.heap.size y (frs K (min K.length 40)) ∧ Below w.heap.size w w' := by
  rcases hs with ⟨a, c, rfl, _, rfl⟩ | ⟨b, o, c, rfl, hne, hm, _, hs⟩
  · go_enter Try.func9, Try.ntmps9
    go_wp2_with fail
    refine wp_loop_rounds 1 ?_
    rw [rounds_succ]
    go_wp2
    exact bodyPost_ret (v := .tuple #[.slice none 0 0, .slice none 0 0]) (by simp [results, Try.results9, go_sem]) rfl ⟨_, _, rfl, ⟨[], World.ownsRow_nil _ _ _ _, rfl, fun i h => absurd h (Nat.not_lt_zero i)⟩, World.ownsRow_nil _ _ _ _, Below.refl _ _⟩
  · exact both_some b o c K w hm hs
end Go.Proofs.Ytgmpekkoffkphaa
