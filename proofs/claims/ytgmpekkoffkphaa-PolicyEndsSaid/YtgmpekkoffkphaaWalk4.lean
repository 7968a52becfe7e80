/- The walks of the document's own Spread and Worth. -/
import Derived.Test.YtgmpekkoffkphaaWalk3
import Derived.IntWalk
namespace Go.Proofs.Ytgmpekkoffkphaa
open Go.RowKit flt
set_option linter.unusedSimpArgs false
def PsAt (w : World) (b o : Nat) (l : List Fr) : Prop := ∀ i (hi : i < l.length), w.cell? ⟨b, o + i * 2, none⟩ = some (.int .i64 l[i].1) ∧ w.cell? ⟨b, o + i * 2 + 1, none⟩ = some (.int .i64 l[i].2)
/-- A slice value that reads as these pairs. -/
def IsPs (w : World) (v : Value) (l : List Fr) : Prop :=
  (∃ a c, v = .slice a 0 c ∧ (a = none → c = 0) ∧ l = []) ∨ (∃ b o c, v = .slice (some ⟨b, o, none⟩) l.length c ∧ l ≠ [] ∧ l.length ≤ maxLen ∧ l.length ≤ c ∧ PsAt w b o l)
theorem PsAt.step {W W1 : World} {b o : Nat} {l : List Fr} (h : PsAt W b o l) (hb : Below W.heap.size W W1) : PsAt W1 b o l := fun i hi => by
  obtain ⟨h1, h2⟩ := h i hi
  exact ⟨by rw [hb.cell (World.block_lt_of_cell? _ _ h1)]; exact h1, by rw [hb.cell (World.block_lt_of_cell? _ _ h2)]; exact h2⟩
theorem IsPs.step {W W1 : World} {v : Value} {l : List Fr} (h : IsPs W v l) (hb : Below W.heap.size W W1) : IsPs W1 v l := by
  rcases h with h | ⟨b, o, c, hv, hne, hm, hc, hs⟩
  · exact .inl h
  · exact .inr ⟨b, o, c, hv, hne, hm, hc, hs.step hb⟩

theorem addr_add (b o n : Nat) : (⟨b, o, none⟩ : Addr).add n = ⟨b, o + n, none⟩ := by
  unfold Addr.add; split <;> simp_all
theorem run_load_p {w : World} {b k : Nat} {x u : Int} {ρ : Operand → Value} {o : Oper} (y : Operand) (ho : o.op = .load 37 y) (hy : ρ y = .pointer (some ⟨b, k, none⟩)) (h1 : w.cell? ⟨b, k, none⟩ = some (.int .i64 x)) (h2 : w.cell? ⟨b, k + 1, none⟩ = some (.int .i64 u)) :
    (execOp ρ o).run Try.prog w = .ok (.value (prV x u)) w := by
  have hl : (loadCells ⟨b, k, none⟩ (prC x u).toList.length).run Try.prog w = .ok (prC x u).toList.toArray w :=
    run_loadCells_list w _ _ (fun j v hv => by
      rw [addr_add]
      match j, hv with
      | 0, hv => cases hv; exact h1
      | 1, hv => cases hv; exact h2)
  have hagg : (isAgg 37).run Try.prog w = .ok true w := by kernel_rfl
  have hsz : (sizeOf 37).run Try.prog w = .ok 2 w := by kernel_rfl
  have hl2 : (loadCells ⟨b, k, none⟩ 2).run Try.prog w = .ok (prC x u) w := hl
  unfold execOp
  simp [ho, hy, Instr.loadAt, Instr.sureAddr, loadVar, Sem.run_bind, hagg, hsz, hl2, prV]
theorem run_load_i {w : World} {b k : Nat} {v : Value} {ρ : Operand → Value} {o : Oper} (x : Operand) (ho : o.op = .load 3 x) (hx : ρ x = .pointer (some ⟨b, k, none⟩)) (hc : w.cell? ⟨b, k, none⟩ = some v) :
    (execOp ρ o).run Try.prog w = .ok (.value v) w := by
  have hagg : (isAgg 3).run Try.prog w = .ok false w := by kernel_rfl
  unfold execOp
  simp [ho, hx, go_sem, Instr.loadAt, Instr.sureAddr, loadVar, Sem.run_bind, hagg, hc]
theorem wl_eqli {ops : Array Oper} {rest : List Oper} {o : Oper} {a : Act} {W : World} {Q : Exit → Act → World → Prop} (hw : Region.wanted o (yielded ops a.tmps) = true) (t : TypeId) (x y : Operand) (ho : o.op = .binOp .eql t x y t) (m n : Int) (hx : a.eval x = .int .i64 m) (hy : a.eval y = .int .i64 n)
    (hK : wpList Try.prog ops Q rest (a.put o.dst (.bool (m == n))) W) : wpList Try.prog ops Q (o :: rest) a W := by
  refine wpList_want hw fun K hK' => ?_
  have h1 : (eqGuard .eql t x y (.int .i64 m) (.int .i64 n)).run Try.prog W = .ok () W := rfl
  have h2 : (binOp .eql t (.int .i64 m) (.int .i64 n)).run Try.prog W = .ok (.bool (m == n)) W := by simp [go_sem]
  unfold Oper.wp execOp
  simp only [ho, hx, hy, Sem.run_bind, h1, h2, Result.andThen_ok, Sem.run_pure]
  exact hK' _ _ hK
theorem ful_three (x u y v : Int) : ful x u y v = 1 ∨ ful x u y v = -1 ∨ ful x u y v = 0 := by
  unfold ful; split
  · exact .inl rfl
  · split
    · exact .inr (.inl rfl)
    · exact .inr (.inr rfl)
theorem Below.at {w w' : World} {a : Addr} {v : Value} (hb : Below w.heap.size w w') (h : w.cell? a = some v) : w'.cell? a = some v := by
  rw [hb.cell (World.block_lt_of_cell? _ _ h)]; exact h
set_option maxHeartbeats 1000000 in
theorem rspread_some (b o c : Nat) (l : List Fr) (hok : ∀ p ∈ l, p.ok) (w : World) (hm : l.length ≤ maxLen) (hs : PsAt w b o l) :
    Calls Try.prog 16 #[.slice (some ⟨b, o, none⟩) l.length c] w fun e w' => e = .returned (.tuple #[.int .i64 (wrs l l.length), .int .i64 (bst l l.length), .bool (decide (0 < l.length))]) ∧ Below w.heap.size w w' := by
  unfold maxLen at hm
  go_enter Try.func16, Try.ntmps16
  go_wp2_with fail
  go_loopw [5, 6, 7] (fun x y i wr => ∃ k : Nat, k ≤ l.length ∧ i = .int .i64 k ∧ x = .int .i64 (wrs l k) ∧ y = .int .i64 (bst l k) ∧ Below w.heap.size w wr) (fun _ _ i _ => l.length - (intOf i).toNat)
  case atStart => exact ⟨0, by omega, rfl, rfl, rfl, Below.refl _ _⟩
  case round =>
    obtain ⟨k, hk, rfl, rfl, rfl, hst⟩ := hrel
    by_cases hlt : k < l.length
    · have hwl : wrs l k < l.length := by have := wrs_le l k; omega
      have hbl : bst l k < l.length := by have := bst_le l k; omega
      obtain ⟨c1, c2⟩ := hs k hlt
      obtain ⟨c3, c4⟩ := hs (wrs l k) hwl
      obtain ⟨c5, c6⟩ := hs (bst l k) hbl
      have okk : Fr.ok _ := hok _ (List.getElem_mem hlt)
      have okw : Fr.ok _ := hok _ (List.getElem_mem hwl)
      have okb : Fr.ok _ := hok _ (List.getElem_mem hbl)
      have hf1 := fun W => rfuller_any _ _ _ _ (Fr.small1 okk) (Fr.small2 okk) (Fr.small1 okw) (Fr.small2 okw) W
      have hf2 := fun W => rfuller_any _ _ _ _ (Fr.smallUp okk) (Fr.small2 okk) (Fr.smallUp okb) (Fr.small2 okb) W
      have e1 : ful l[k].1 l[k].2 l[wrs l k].1 l[wrs l k].2 = fulAt l k (wrs l k) := by simp [fulAt, List.getD_eq_getElem?_getD, hlt, hwl]
      have e2 : ful (l[k].1 + 1) l[k].2 (l[bst l k].1 + 1) l[bst l k].2 = fulUp l k (bst l k) := by simp [fulUp, List.getD_eq_getElem?_getD, hlt, hbl]
      rw [e1] at hf1
      rw [e2] at hf2
      have hw1 : wrs l (k + 1) = if 0 < fulAt l k (wrs l k) then k else wrs l k := rfl
      have hb1 : bst l (k + 1) = if fulUp l k (bst l k) < 0 then k else bst l k := rfl
      have ok1 : l[k].1 + 1 < 2 ^ 40 ∧ 0 ≤ l[k].1 := ⟨by have := okk.2.1; omega, okk.1⟩
      have ok2 : l[bst l k].1 + 1 < 2 ^ 40 ∧ 0 ≤ l[bst l k].1 := ⟨by have := okb.2.1; omega, okb.1⟩
      have t1 : fulAt l k (wrs l k) = 1 ∨ fulAt l k (wrs l k) = -1 ∨ fulAt l k (wrs l k) = 0 := ful_three _ _ _ _
      have t2 : fulUp l k (bst l k) = 1 ∨ fulUp l k (bst l k) = -1 ∨ fulUp l k (bst l k) = 0 := ful_three _ _ _ _
      clear okk okw okb e1 e2 hok
      generalize fulAt l k (wrs l k) = f1 at *
      generalize fulUp l k (bst l k) = f2 at *
      generalize l[k].1 = xk at *
      generalize l[k].2 = uk at *
      generalize l[wrs l k].1 = xw at *
      generalize l[wrs l k].2 = uw at *
      generalize l[bst l k].1 = xb at *
      generalize l[bst l k].2 = ub at *
      go_wp2_with fail
      have hstD := hst.drew
      clear hst
      refine Reg.region_ord (S := fun w' => Below w.heap.size w w') [(0, 1), (1, 1), (2, 1), (3, 1), (4, 1), (5, 1), (6, 1), (7, 1), (8, 0), (9, 0)] (by kernel_rfl) (by kernel_rfl) (by decide) (by kernel_rfl) (fun _ _ _ _ _ h => h) ?_
      generalize wr.drew = W at *
      repeat (refine Reg.ord_move rfl _ rfl rfl hstD ?_; simp only [Act.put, Act.eval, List.setIfInBounds_toArray, List.set_cons_succ, List.set_cons_zero, Array.getD_eq_getD_getElem?, List.getElem?_toArray, List.getElem?_cons_succ, List.getElem?_cons_zero, Option.getD_some])
      refine Reg.ord_val rfl rfl hstD (.pointer (some ⟨b, o + k * 2, none⟩)) (fun w' _ => by go_simp) ?_; simp only [Act.put, Act.eval, List.setIfInBounds_toArray, List.set_cons_succ, List.set_cons_zero, Array.getD_eq_getD_getElem?, List.getElem?_toArray, List.getElem?_cons_succ, List.getElem?_cons_zero, Option.getD_some]
      refine Reg.ord_val rfl rfl hstD (prV xk uk) (fun w' h => run_load_p _ rfl (by simp [Act.eval]) (Below.at h c1) (Below.at h c2)) ?_; simp only [Act.put, Act.eval, List.setIfInBounds_toArray, List.set_cons_succ, List.set_cons_zero, Array.getD_eq_getD_getElem?, List.getElem?_toArray, List.getElem?_cons_succ, List.getElem?_cons_zero, Option.getD_some]
      repeat (refine Reg.ord_move rfl _ rfl rfl hstD ?_; simp only [Act.put, Act.eval, List.setIfInBounds_toArray, List.set_cons_succ, List.set_cons_zero, Array.getD_eq_getD_getElem?, List.getElem?_toArray, List.getElem?_cons_succ, List.getElem?_cons_zero, Option.getD_some])
      refine Reg.ord_val rfl rfl hstD (.pointer (some ⟨b, o + wrs l k * 2, none⟩)) (fun w' _ => by go_simp) ?_; simp only [Act.put, Act.eval, List.setIfInBounds_toArray, List.set_cons_succ, List.set_cons_zero, Array.getD_eq_getD_getElem?, List.getElem?_toArray, List.getElem?_cons_succ, List.getElem?_cons_zero, Option.getD_some]
      refine Reg.ord_val rfl rfl hstD (prV xw uw) (fun w' h => run_load_p _ rfl (by simp [Act.eval]) (Below.at h c3) (Below.at h c4)) ?_; simp only [Act.put, Act.eval, List.setIfInBounds_toArray, List.set_cons_succ, List.set_cons_zero, Array.getD_eq_getD_getElem?, List.getElem?_toArray, List.getElem?_cons_succ, List.getElem?_cons_zero, Option.getD_some]
      refine Reg.ord_call rfl rfl 15 _ (by go_simp) (hf1 _) (fun W4 hb4 => ⟨hstD.trans (hb4.mono hstD.size), ?_⟩)
      have hst := hstD.trans (hb4.mono hstD.size)
      clear hstD hb4
      simp only [Act.put, Act.eval, List.setIfInBounds_toArray, List.set_cons_succ, List.set_cons_zero, Array.getD_eq_getD_getElem?, List.getElem?_toArray, List.getElem?_cons_succ, List.getElem?_cons_zero, Option.getD_some]
      by_cases h1 : 0 < f1
      all_goals
        first | rw [if_pos h1] at hw1 | rw [if_neg h1] at hw1
        refine Reg.ord_step rfl ?_
        refine wl_eqli rfl 3 _ _ rfl f1 1 (by simp [Act.eval]) rfl ?_
        first | rw [show (f1 == 1) = true by rw [beq_iff_eq]; omega] | rw [show (f1 == 1) = false by rw [beq_eq_false_iff_ne]; omega]
        refine wpList_nil ⟨hst, ?_⟩
        simp only [Act.put, Act.eval, List.setIfInBounds_toArray, List.set_cons_succ, List.set_cons_zero, Array.getD_eq_getD_getElem?, List.getElem?_toArray, List.getElem?_cons_succ, List.getElem?_cons_zero, Option.getD_some]
        refine Reg.ord_nil ?_
        go_wp2_with fail
      all_goals
        have hstD := hst.drew
        clear hst
        refine Reg.region_ord (S := fun w' => Below w.heap.size w w') [(0, 1), (1, 1), (2, 1), (3, 1), (4, 1), (5, 1), (6, 1), (7, 1), (8, 1), (9, 1), (10, 1), (11, 1), (12, 1), (13, 1), (14, 1), (15, 1), (16, 1), (17, 1), (18, 1), (19, 1), (20, 1), (21, 1), (22, 1), (23, 1), (24, 0), (25, 0)] (by kernel_rfl) (by kernel_rfl) (by decide) (by kernel_rfl) (fun _ _ _ _ _ h => h) ?_
        generalize W4.drew = W5 at *
        refine Reg.ord_move rfl _ rfl rfl hstD ?_; simp only [Act.put, Act.eval, List.setIfInBounds_toArray, List.set_cons_succ, List.set_cons_zero, Array.getD_eq_getD_getElem?, List.getElem?_toArray, List.getElem?_cons_succ, List.getElem?_cons_zero, Option.getD_some]
        refine Reg.ord_move rfl _ rfl rfl hstD ?_; simp only [Act.put, Act.eval, List.setIfInBounds_toArray, List.set_cons_succ, List.set_cons_zero, Array.getD_eq_getD_getElem?, List.getElem?_toArray, List.getElem?_cons_succ, List.getElem?_cons_zero, Option.getD_some]
        refine Reg.ord_val rfl rfl hstD (.pointer (some ⟨b, o + k * 2, none⟩)) (fun w' _ => by go_simp) ?_; simp only [Act.put, Act.eval, List.setIfInBounds_toArray, List.set_cons_succ, List.set_cons_zero, Array.getD_eq_getD_getElem?, List.getElem?_toArray, List.getElem?_cons_succ, List.getElem?_cons_zero, Option.getD_some]
        refine Reg.ord_val rfl rfl hstD (.pointer (some ⟨b, o + k * 2, none⟩)) (fun w' _ => by go_simp) ?_; simp only [Act.put, Act.eval, List.setIfInBounds_toArray, List.set_cons_succ, List.set_cons_zero, Array.getD_eq_getD_getElem?, List.getElem?_toArray, List.getElem?_cons_succ, List.getElem?_cons_zero, Option.getD_some]
        refine Reg.ord_val rfl rfl hstD (.int .i64 xk) (fun w' h => run_load_i _ rfl (by simp [Act.eval]) (Below.at h c1)) ?_; simp only [Act.put, Act.eval, List.setIfInBounds_toArray, List.set_cons_succ, List.set_cons_zero, Array.getD_eq_getD_getElem?, List.getElem?_toArray, List.getElem?_cons_succ, List.getElem?_cons_zero, Option.getD_some]
        refine Reg.ord_val rfl rfl hstD (.int .i64 (xk + 1)) (fun w' _ => by go_simp; exact IntWalk.i64_in _ (by omega)) ?_; simp only [Act.put, Act.eval, List.setIfInBounds_toArray, List.set_cons_succ, List.set_cons_zero, Array.getD_eq_getD_getElem?, List.getElem?_toArray, List.getElem?_cons_succ, List.getElem?_cons_zero, Option.getD_some]
        refine Reg.ord_move rfl _ rfl rfl hstD ?_; simp only [Act.put, Act.eval, List.setIfInBounds_toArray, List.set_cons_succ, List.set_cons_zero, Array.getD_eq_getD_getElem?, List.getElem?_toArray, List.getElem?_cons_succ, List.getElem?_cons_zero, Option.getD_some]
        refine Reg.ord_move rfl _ rfl rfl hstD ?_; simp only [Act.put, Act.eval, List.setIfInBounds_toArray, List.set_cons_succ, List.set_cons_zero, Array.getD_eq_getD_getElem?, List.getElem?_toArray, List.getElem?_cons_succ, List.getElem?_cons_zero, Option.getD_some]
        refine Reg.ord_val rfl rfl hstD (.pointer (some ⟨b, o + k * 2, none⟩)) (fun w' _ => by go_simp) ?_; simp only [Act.put, Act.eval, List.setIfInBounds_toArray, List.set_cons_succ, List.set_cons_zero, Array.getD_eq_getD_getElem?, List.getElem?_toArray, List.getElem?_cons_succ, List.getElem?_cons_zero, Option.getD_some]
        refine Reg.ord_val rfl rfl hstD (.pointer (some ⟨b, o + k * 2 + 1, none⟩)) (fun w' _ => by go_simp) ?_; simp only [Act.put, Act.eval, List.setIfInBounds_toArray, List.set_cons_succ, List.set_cons_zero, Array.getD_eq_getD_getElem?, List.getElem?_toArray, List.getElem?_cons_succ, List.getElem?_cons_zero, Option.getD_some]
        refine Reg.ord_val rfl rfl hstD (.int .i64 uk) (fun w' h => run_load_i _ rfl (by simp [Act.eval]) (Below.at h c2)) ?_; simp only [Act.put, Act.eval, List.setIfInBounds_toArray, List.set_cons_succ, List.set_cons_zero, Array.getD_eq_getD_getElem?, List.getElem?_toArray, List.getElem?_cons_succ, List.getElem?_cons_zero, Option.getD_some]
        refine Reg.ord_val rfl rfl hstD (prV (xk + 1) uk) (fun w' _ => by go_simp; rfl) ?_; simp only [Act.put, Act.eval, List.setIfInBounds_toArray, List.set_cons_succ, List.set_cons_zero, Array.getD_eq_getD_getElem?, List.getElem?_toArray, List.getElem?_cons_succ, List.getElem?_cons_zero, Option.getD_some]
        refine Reg.ord_move rfl _ rfl rfl hstD ?_; simp only [Act.put, Act.eval, List.setIfInBounds_toArray, List.set_cons_succ, List.set_cons_zero, Array.getD_eq_getD_getElem?, List.getElem?_toArray, List.getElem?_cons_succ, List.getElem?_cons_zero, Option.getD_some]
        refine Reg.ord_move rfl _ rfl rfl hstD ?_; simp only [Act.put, Act.eval, List.setIfInBounds_toArray, List.set_cons_succ, List.set_cons_zero, Array.getD_eq_getD_getElem?, List.getElem?_toArray, List.getElem?_cons_succ, List.getElem?_cons_zero, Option.getD_some]
        refine Reg.ord_val rfl rfl hstD (.pointer (some ⟨b, o + bst l k * 2, none⟩)) (fun w' _ => by go_simp) ?_; simp only [Act.put, Act.eval, List.setIfInBounds_toArray, List.set_cons_succ, List.set_cons_zero, Array.getD_eq_getD_getElem?, List.getElem?_toArray, List.getElem?_cons_succ, List.getElem?_cons_zero, Option.getD_some]
        refine Reg.ord_val rfl rfl hstD (.pointer (some ⟨b, o + bst l k * 2, none⟩)) (fun w' _ => by go_simp) ?_; simp only [Act.put, Act.eval, List.setIfInBounds_toArray, List.set_cons_succ, List.set_cons_zero, Array.getD_eq_getD_getElem?, List.getElem?_toArray, List.getElem?_cons_succ, List.getElem?_cons_zero, Option.getD_some]
        refine Reg.ord_val rfl rfl hstD (.int .i64 xb) (fun w' h => run_load_i _ rfl (by simp [Act.eval]) (Below.at h c5)) ?_; simp only [Act.put, Act.eval, List.setIfInBounds_toArray, List.set_cons_succ, List.set_cons_zero, Array.getD_eq_getD_getElem?, List.getElem?_toArray, List.getElem?_cons_succ, List.getElem?_cons_zero, Option.getD_some]
        refine Reg.ord_val rfl rfl hstD (.int .i64 (xb + 1)) (fun w' _ => by go_simp; exact IntWalk.i64_in _ (by omega)) ?_; simp only [Act.put, Act.eval, List.setIfInBounds_toArray, List.set_cons_succ, List.set_cons_zero, Array.getD_eq_getD_getElem?, List.getElem?_toArray, List.getElem?_cons_succ, List.getElem?_cons_zero, Option.getD_some]
        refine Reg.ord_move rfl _ rfl rfl hstD ?_; simp only [Act.put, Act.eval, List.setIfInBounds_toArray, List.set_cons_succ, List.set_cons_zero, Array.getD_eq_getD_getElem?, List.getElem?_toArray, List.getElem?_cons_succ, List.getElem?_cons_zero, Option.getD_some]
        refine Reg.ord_move rfl _ rfl rfl hstD ?_; simp only [Act.put, Act.eval, List.setIfInBounds_toArray, List.set_cons_succ, List.set_cons_zero, Array.getD_eq_getD_getElem?, List.getElem?_toArray, List.getElem?_cons_succ, List.getElem?_cons_zero, Option.getD_some]
        refine Reg.ord_val rfl rfl hstD (.pointer (some ⟨b, o + bst l k * 2, none⟩)) (fun w' _ => by go_simp) ?_; simp only [Act.put, Act.eval, List.setIfInBounds_toArray, List.set_cons_succ, List.set_cons_zero, Array.getD_eq_getD_getElem?, List.getElem?_toArray, List.getElem?_cons_succ, List.getElem?_cons_zero, Option.getD_some]
        refine Reg.ord_val rfl rfl hstD (.pointer (some ⟨b, o + bst l k * 2 + 1, none⟩)) (fun w' _ => by go_simp) ?_; simp only [Act.put, Act.eval, List.setIfInBounds_toArray, List.set_cons_succ, List.set_cons_zero, Array.getD_eq_getD_getElem?, List.getElem?_toArray, List.getElem?_cons_succ, List.getElem?_cons_zero, Option.getD_some]
        refine Reg.ord_val rfl rfl hstD (.int .i64 ub) (fun w' h => run_load_i _ rfl (by simp [Act.eval]) (Below.at h c6)) ?_; simp only [Act.put, Act.eval, List.setIfInBounds_toArray, List.set_cons_succ, List.set_cons_zero, Array.getD_eq_getD_getElem?, List.getElem?_toArray, List.getElem?_cons_succ, List.getElem?_cons_zero, Option.getD_some]
        refine Reg.ord_val rfl rfl hstD (prV (xb + 1) ub) (fun w' _ => by go_simp; rfl) ?_; simp only [Act.put, Act.eval, List.setIfInBounds_toArray, List.set_cons_succ, List.set_cons_zero, Array.getD_eq_getD_getElem?, List.getElem?_toArray, List.getElem?_cons_succ, List.getElem?_cons_zero, Option.getD_some]
        refine Reg.ord_call rfl rfl 15 _ (by go_simp) (hf2 _) (fun W6 hb6 => ⟨hstD.trans (hb6.mono hstD.size), ?_⟩)
        have hst := hstD.trans (hb6.mono hstD.size)
        clear hstD hb6
        simp only [Act.put, Act.eval, List.setIfInBounds_toArray, List.set_cons_succ, List.set_cons_zero, Array.getD_eq_getD_getElem?, List.getElem?_toArray, List.getElem?_cons_succ, List.getElem?_cons_zero, Option.getD_some]
        refine Reg.ord_step rfl ?_
        refine wl_eqli rfl 3 _ _ rfl f2 (-1) (by simp [Act.eval]) rfl ?_
        refine wpList_nil ⟨hst, ?_⟩
        simp only [Act.put, Act.eval, List.setIfInBounds_toArray, List.set_cons_succ, List.set_cons_zero, Array.getD_eq_getD_getElem?, List.getElem?_toArray, List.getElem?_cons_succ, List.getElem?_cons_zero, Option.getD_some]
        refine Reg.ord_nil ?_
        by_cases h2 : f2 < 0
        all_goals
          first | rw [if_pos h2] at hb1 | rw [if_neg h2] at hb1
          first | rw [show (f2 == -1) = true by rw [beq_iff_eq]; omega] | rw [show (f2 == -1) = false by rw [beq_eq_false_iff_ne]; omega]
          go_wp2_with fail
          go_roundw
          case rel => exact ⟨k + 1, by omega, by go_num, by rw [hw1], by rw [hb1], hst⟩
          case measure => simp [intOf]; omega
    · obtain rfl : k = l.length := by omega
      go_wp2
      refine ret_tmp3 rfl _ _ _ rfl rfl rfl rfl ⟨?_, hst⟩
      simp

theorem rspread_any (v : Value) (l : List Fr) (hok : ∀ p ∈ l, p.ok) (w : World) (hs : IsPs w v l) :
    Calls Try.prog 16 #[v] w fun e w' => e = .returned (.tuple #[.int .i64 (wrs l l.length), .int .i64 (bst l l.length), .bool (decide (0 < l.length))]) ∧ Below w.heap.size w w' := by
  rcases hs with ⟨a, c, rfl, _, rfl⟩ | ⟨b, o, c, rfl, hne, hm, _, hs⟩
  · go_enter Try.func16, Try.ntmps16
    go_wp2_with fail
    refine wp_loop_rounds 1 ?_
    rw [rounds_succ]
    go_wp2
    exact ret_tmp3 rfl _ _ _ rfl rfl rfl rfl ⟨rfl, Below.refl _ _⟩
  · exact rspread_some b o c l hok w hm hs
end Go.Proofs.Ytgmpekkoffkphaa
