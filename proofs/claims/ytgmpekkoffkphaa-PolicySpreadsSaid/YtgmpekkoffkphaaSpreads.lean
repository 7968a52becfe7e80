/- PolicySpreads: the fullest is told, and who is worth it. The statement holds as it stands: no condition. -/
import Derived.Test.YtgmpekkoffkphaaPlain
namespace Go.Proofs.Ytgmpekkoffkphaa.spreads
open Go.RowKit Go.ChangeShapes Go.WideShapes Go.ChangeAt flt
set_option linter.unusedSimpArgs false

theorem run_cneq {p q r s : Nat} {m n : Int} (t : TypeId) (h1 : rep p m) (h2 : rep q n) (h3 : rep r m) (h4 : rep s n) (w : World) : (binOp .neq t (.complex .f64 p q) (.complex .f64 r s)).run Try.prog w = .ok (.bool false) w := by
  rw [run_neq_complex, rep_order h1 h3, rep_order h2 h4]
  simp [compare, compareOfLessAndEq]
theorem wl_neqc {ops : Array Oper} {rest : List Oper} {o : Oper} {a : Act} {W : World} {Q : Exit → Act → World → Prop} (hw : Region.wanted o (yielded ops a.tmps) = true) (t : TypeId) (x y : Operand) (ho : o.op = .binOp .neq t x y t) {p q r s : Nat} {m n : Int} (hx : a.eval x = .complex .f64 p q) (hy : a.eval y = .complex .f64 r s)
    (h1 : rep p m) (h2 : rep q n) (h3 : rep r m) (h4 : rep s n) (hK : wpList Try.prog ops Q rest (a.put o.dst (.bool false)) W) : wpList Try.prog ops Q (o :: rest) a W := by
  refine wpList_want hw fun K hK' => ?_
  have g1 : (eqGuard .neq t x y (.complex .f64 p q) (.complex .f64 r s)).run Try.prog W = .ok () W := rfl
  unfold Oper.wp execOp
  simp only [ho, hx, hy, Sem.run_bind, g1, run_cneq t h1 h2 h3 h4, Result.andThen_ok, Sem.run_pure]
  exact hK' _ _ hK
set_option maxRecDepth 100000 in
set_option maxHeartbeats 2000000 in
theorem walk (v : Value) (K : List Fr) (i j : Int) (w : World) (hs : IsPs w v K) :
    Calls Try.prog 5 #[v, .int .i64 i, .int .i64 j] w fun e w' => e = .returned (.bool true) ∧ Below w.heap.size w w' := by
  go_enter Try.func5, Try.ntmps5
  go_wp2_with fail
  refine (shown_any _).mono ?_
  rintro e W6 ⟨rfl, hst⟩
  have hs6 := hs.step hst
  clear hs
  go_wp2_with fail
  refine (both_any _ _ _ hs6).mono ?_
  rintro e W8 ⟨va, vb, rfl, hox, hoy, hb8⟩
  have hst8 := hst.trans (hb8.mono hst.size)
  have hok := frs_ok K (min K.length 40)
  have hlen := frs_len K (min K.length 40)
  have hcs := hox.isCs
  have hps := hoy.isPs
  clear hox hoy hst hb8 hs6
  generalize hl : frs K (min K.length 40) = l at *
  clear hl
  have hl40 : l.length ≤ 40 := by omega
  clear hlen
  go_wp2_with fail
  refine (spread_any _ _ hok _ hcs).mono ?_
  rintro e W9 ⟨rfl, hb9⟩
  replace hcs := hcs.step hb9
  replace hps := hps.step hb9
  have hst9 := hst8.trans (hb9.mono hst8.size)
  clear hb9 hst8
  go_wp2_with fail
  refine (rspread_any _ _ hok _ hps).mono ?_
  rintro e W10 ⟨rfl, hb10⟩
  replace hcs := hcs.step hb10
  replace hps := hps.step hb10
  have hst10 := hst9.trans (hb10.mono hst9.size)
  clear hb10 hst9
  generalize wrs l l.length = p1 at *
  generalize bst l l.length = p2 at *
  have hd : (decide (0 < l.length) != decide (0 < l.length)) = false := by simp
  generalize decide (0 < l.length) = d at *
  go_wp2_with fail
  refine (worth_any _ _ hok i j _ hcs).mono ?_
  rintro e W11 ⟨rfl, hb11⟩
  replace hcs := hcs.step hb11
  replace hps := hps.step hb11
  have hst11 := hst10.trans (hb11.mono hst10.size)
  clear hb11 hst10
  go_wp2_with fail
  refine (rworth_any _ _ hok i j _ hps).mono ?_
  rintro e W12 ⟨rfl, hb12⟩
  replace hcs := hcs.step hb12
  replace hps := hps.step hb12
  have hst12 := hst11.trans (hb12.mono hst11.size)
  clear hb12 hst11 hd
  have hd : (worthB l i j != worthB l i j) = false := by simp
  generalize worthB l i j = t at *
  go_wp2_with fail
  rcases hcs with ⟨a, c, rfl, _, rfl⟩ | ⟨b, o, c, rfl, hne, hm, _, hat⟩
  · refine wp_loop_rounds 1 ?_
    rw [rounds_succ]
    go_wp2
    exact ret_tmp rfl _ rfl rfl ⟨rfl, hst12⟩
  rcases hps with ⟨a', c', rfl, _, rfl⟩ | ⟨b', o', c', rfl, _, _, _, hat'⟩
  · exact absurd rfl hne
  clear hne
  unfold maxLen at hm
  go_loopw [16] (fun i wr => ∃ k : Nat, k ≤ l.length ∧ i = .int .i64 k ∧ Below W12.heap.size W12 wr) (fun i _ => l.length - (intOf i).toNat)
  case atStart => exact ⟨0, by omega, rfl, Below.refl _ _⟩
  case round =>
    obtain ⟨k, hk, rfl, hst⟩ := hrel
    by_cases hlt : k < l.length
    · obtain ⟨vk, hck, p, q, rfl, hp, hq⟩ := (hat.step hst) k hlt
      obtain ⟨hc1, hc2⟩ := (hat'.step hst) k hlt
      have hckD : wr.drew.cell? ⟨b, o + k, none⟩ = some (.complex .f64 p q) := hck
      have hc1D : wr.drew.cell? ⟨b', o' + k * 2, none⟩ = some (.int .i64 l[k].1) := hc1
      have hc2D : wr.drew.cell? ⟨b', o' + k * 2 + 1, none⟩ = some (.int .i64 l[k].2) := hc2
      have ok := hok _ (List.getElem_mem hlt)
      have r1 : rep (floatOfInt .f64 l[k].1) l[k].1 := rep_of rfl (by have := ok.1; have := ok.2.1; omega)
      have r2 : rep (floatOfInt .f64 l[k].2) l[k].2 := rep_of rfl (by have := ok.2.2.1; have := ok.2.2.2; omega)
      have hstD := hst.drew
      clear hck hc1 hc2 ok hst
      generalize l[k].1 = m at *
      generalize l[k].2 = n at *
      generalize hf1 : floatOfInt .f64 m = f1 at *
      generalize hf2 : floatOfInt .f64 n = f2 at *
      have F1 := Lib.hid hf1
      have F2 := Lib.hid hf2
      clear hf1 hf2
      go_wp2_with fail
      refine Reg.region_ord (S := fun w' => w' = wr.drew) [(0, 1), (1, 1), (2, 1), (3, 1), (4, 1), (5, 1), (6, 1), (7, 1), (8, 1), (9, 1), (10, 1), (11, 1), (12, 1), (13, 1), (14, 1), (15, 1), (16, 0), (17, 0)] (by kernel_rfl) (by kernel_rfl) (by decide) (by kernel_rfl) (fun _ _ _ _ _ h => h) ?_
      generalize wr.drew = W at *
      refine Reg.ord_move rfl _ rfl rfl rfl ?_; simp only [Act.put, Act.eval, List.setIfInBounds_toArray, List.set_cons_succ, List.set_cons_zero, Array.getD_eq_getD_getElem?, List.getElem?_toArray, List.getElem?_cons_succ, List.getElem?_cons_zero, Option.getD_some]
      refine Reg.ord_move rfl _ rfl rfl rfl ?_; simp only [Act.put, Act.eval, List.setIfInBounds_toArray, List.set_cons_succ, List.set_cons_zero, Array.getD_eq_getD_getElem?, List.getElem?_toArray, List.getElem?_cons_succ, List.getElem?_cons_zero, Option.getD_some]
      refine Reg.ord_val rfl rfl rfl (.pointer (some ⟨b, o + k, none⟩)) (fun w' _ => by go_simp) ?_; simp only [Act.put, Act.eval, List.setIfInBounds_toArray, List.set_cons_succ, List.set_cons_zero, Array.getD_eq_getD_getElem?, List.getElem?_toArray, List.getElem?_cons_succ, List.getElem?_cons_zero, Option.getD_some]
      refine Reg.ord_val rfl rfl rfl (.complex .f64 p q) (fun w' h => by subst h; exact run_load_c _ rfl (by simp [Act.eval]) hckD) ?_; simp only [Act.put, Act.eval, List.setIfInBounds_toArray, List.set_cons_succ, List.set_cons_zero, Array.getD_eq_getD_getElem?, List.getElem?_toArray, List.getElem?_cons_succ, List.getElem?_cons_zero, Option.getD_some]
      refine Reg.ord_move rfl _ rfl rfl rfl ?_; simp only [Act.put, Act.eval, List.setIfInBounds_toArray, List.set_cons_succ, List.set_cons_zero, Array.getD_eq_getD_getElem?, List.getElem?_toArray, List.getElem?_cons_succ, List.getElem?_cons_zero, Option.getD_some]
      refine Reg.ord_move rfl _ rfl rfl rfl ?_; simp only [Act.put, Act.eval, List.setIfInBounds_toArray, List.set_cons_succ, List.set_cons_zero, Array.getD_eq_getD_getElem?, List.getElem?_toArray, List.getElem?_cons_succ, List.getElem?_cons_zero, Option.getD_some]
      refine Reg.ord_val rfl rfl rfl (.pointer (some ⟨b', o' + k * 2, none⟩)) (fun w' _ => by go_simp) ?_; simp only [Act.put, Act.eval, List.setIfInBounds_toArray, List.set_cons_succ, List.set_cons_zero, Array.getD_eq_getD_getElem?, List.getElem?_toArray, List.getElem?_cons_succ, List.getElem?_cons_zero, Option.getD_some]
      refine Reg.ord_val rfl rfl rfl (.pointer (some ⟨b', o' + k * 2, none⟩)) (fun w' _ => by go_simp) ?_; simp only [Act.put, Act.eval, List.setIfInBounds_toArray, List.set_cons_succ, List.set_cons_zero, Array.getD_eq_getD_getElem?, List.getElem?_toArray, List.getElem?_cons_succ, List.getElem?_cons_zero, Option.getD_some]
      refine Reg.ord_val rfl rfl rfl (.int .i64 m) (fun w' h => by subst h; exact run_load_i _ rfl (by simp [Act.eval]) hc1D) ?_; simp only [Act.put, Act.eval, List.setIfInBounds_toArray, List.set_cons_succ, List.set_cons_zero, Array.getD_eq_getD_getElem?, List.getElem?_toArray, List.getElem?_cons_succ, List.getElem?_cons_zero, Option.getD_some]
      refine Reg.ord_val rfl rfl rfl (.float .f64 f1) (fun w' _ => by go_simp; rw [F1.out]) ?_; simp only [Act.put, Act.eval, List.setIfInBounds_toArray, List.set_cons_succ, List.set_cons_zero, Array.getD_eq_getD_getElem?, List.getElem?_toArray, List.getElem?_cons_succ, List.getElem?_cons_zero, Option.getD_some]
      refine Reg.ord_move rfl _ rfl rfl rfl ?_; simp only [Act.put, Act.eval, List.setIfInBounds_toArray, List.set_cons_succ, List.set_cons_zero, Array.getD_eq_getD_getElem?, List.getElem?_toArray, List.getElem?_cons_succ, List.getElem?_cons_zero, Option.getD_some]
      refine Reg.ord_move rfl _ rfl rfl rfl ?_; simp only [Act.put, Act.eval, List.setIfInBounds_toArray, List.set_cons_succ, List.set_cons_zero, Array.getD_eq_getD_getElem?, List.getElem?_toArray, List.getElem?_cons_succ, List.getElem?_cons_zero, Option.getD_some]
      refine Reg.ord_val rfl rfl rfl (.pointer (some ⟨b', o' + k * 2, none⟩)) (fun w' _ => by go_simp) ?_; simp only [Act.put, Act.eval, List.setIfInBounds_toArray, List.set_cons_succ, List.set_cons_zero, Array.getD_eq_getD_getElem?, List.getElem?_toArray, List.getElem?_cons_succ, List.getElem?_cons_zero, Option.getD_some]
      refine Reg.ord_val rfl rfl rfl (.pointer (some ⟨b', o' + k * 2 + 1, none⟩)) (fun w' _ => by go_simp) ?_; simp only [Act.put, Act.eval, List.setIfInBounds_toArray, List.set_cons_succ, List.set_cons_zero, Array.getD_eq_getD_getElem?, List.getElem?_toArray, List.getElem?_cons_succ, List.getElem?_cons_zero, Option.getD_some]
      refine Reg.ord_val rfl rfl rfl (.int .i64 n) (fun w' h => by subst h; exact run_load_i _ rfl (by simp [Act.eval]) hc2D) ?_; simp only [Act.put, Act.eval, List.setIfInBounds_toArray, List.set_cons_succ, List.set_cons_zero, Array.getD_eq_getD_getElem?, List.getElem?_toArray, List.getElem?_cons_succ, List.getElem?_cons_zero, Option.getD_some]
      refine Reg.ord_val rfl rfl rfl (.float .f64 f2) (fun w' _ => by go_simp; rw [F2.out]) ?_; simp only [Act.put, Act.eval, List.setIfInBounds_toArray, List.set_cons_succ, List.set_cons_zero, Array.getD_eq_getD_getElem?, List.getElem?_toArray, List.getElem?_cons_succ, List.getElem?_cons_zero, Option.getD_some]
      clear hckD hc1D hc2D
      refine Reg.ord_step rfl ?_
      go_wp2_with fail
      refine ⟨trivial, ?_⟩
      refine Reg.ord_step rfl ?_
      refine wl_neqc rfl 33 _ _ rfl (by simp [Act.eval] <;> rfl) (by simp [Act.eval] <;> rfl) hp hq r1 r2 ?_
      refine wpList_nil ⟨rfl, ?_⟩
      simp only [Act.put, Act.eval, List.setIfInBounds_toArray, List.set_cons_succ, List.set_cons_zero, Array.getD_eq_getD_getElem?, List.getElem?_toArray, List.getElem?_cons_succ, List.getElem?_cons_zero, Option.getD_some]
      refine Reg.ord_nil ?_
      go_wp2_with fail
      go_roundw
      case rel => exact ⟨k + 1, by omega, by go_num, hstD⟩
      case measure => simp [intOf]; omega
    · obtain rfl : k = l.length := by omega
      go_wp2
      exact ret_tmp rfl _ rfl rfl ⟨rfl, hst12.trans (hst.mono hst12.size)⟩
/-! ### The row's step -/
set_option maxRecDepth 100000 in
theorem lifted (os : Os) (started : os.Started) (H : Type) (enc : TypeId × Value → H) :
    ReturnsInHanded {} Try.checked os 5 .any (Rows.policySpreadsSpec.pre6 enc Try.prog Try.f5 Rows.policySpreadsRow.domain false) (Rows.policySpreadsSpec.post enc Try.prog Try.f5 false true false false) := by
  refine returnsInHanded_of_change (C := Try.checked) own started (by kernel_rfl) Try.func5
    (ChangeSpec.witness6 (enc := enc) (C := Try.checked) false ⟨#[], #[.slice none 0 0, .int .i64 0, .int .i64 0], []⟩ 8 (by kernel_rfl) (by kernel_rfl) (by kernel_rfl) (by kernel_rfl)) ?_
  intro W base args ds gs before hval0 hW hcnd _
  have hval : ∀ (j : Nat) t v, Try.f5.params[j]? = some t → args[j]? = some v → Value.okWide Try.prog W .any base t v := hval0
  have hW' := hW
  obtain ⟨p, q, hA0, hV, rfl, hfz, hnd⟩ := hW
  have hA : DataW.TrodAll enc Try.prog W 0 (fun _ => true) true Try.f5.params.toList args.toList ds p := hA0
  rw [Try.params5] at hA hval
  obtain ⟨v0, vs0, d0, ds0, p0, q0, hargs, rfl, rfl, h0, r0⟩ := trodAll_cons hA
  obtain ⟨v1, vs1, d1, ds1, p1, q1, rfl, rfl, rfl, h1, r1⟩ := trodAll_cons r0
  obtain ⟨v2, vs2, d2, ds2, p2, q2, rfl, rfl, rfl, h2, r2⟩ := trodAll_cons r1
  obtain ⟨rfl, rfl, rfl⟩ := trodAll_nil r2
  obtain rfl : args = #[v0, v1, v2] := by cases args; simp_all
  obtain ⟨rfl, rfl⟩ := trodVars_none hV
  have k0 := h0
  have lt0 : ∀ x ∈ p0, x.block < W.heap.size := by obtain ⟨m, hm⟩ := k0; exact DataW.trod_lt m _ _ _ hm
  obtain ⟨x0, hs0⟩ := open_parts (hval 0 29 v0 rfl rfl) k0
  have k1 := h1
  clear h1
  obtain ⟨x1, rfl, rfl, rfl, w1⟩ := open_int Try.underlying3 (hval 1 3 v1 rfl rfl) k1
  have k2 := h2
  clear h2
  obtain ⟨x2, rfl, rfl, rfl, w2⟩ := open_int Try.underlying3 (hval 2 3 v2 rfl rfl) k2
  clear hA0 hval0
  refine (walk v0 x0 x1 x2 W hs0).mono fun e W' ⟨he, bel⟩ => ?_
  subst he
  exact ⟨_, rfl, _, _, _, [], _, [], hW', trodAll_mk1 (shut_bool Try.underlying4 _), (trodAll_cons_mk (Below.trod laidOut (by kernel_rfl) (of_decide_eq_true (by kernel_rfl)) k0 bel lt0) (trodAll_cons_mk (shut_int Try.underlying3 w1) (trodAll_cons_mk (shut_int Try.underlying3 w2) trodAll_mk0))), rfl, bel.frame _, fun h => by cases h⟩

theorem over : Rows.policySpreadsRow.holds Try.pinned (OpenSpec.ofChange Rows.policySpreadsSpec) :=
  OpenClaim.holds_of_wide 5 Try.f5 rfl rfl rfl rfl rfl rfl rfl ⟨rfl, rfl, rfl, rfl, rfl⟩ rfl rfl rfl rfl rfl (by kernel_rfl) Try.func5 (by kernel_rfl)
    (of_decide_eq_true (by kernel_rfl)) (by unfold Func.isWrapper; first | (rw [if_pos (by decide +kernel)]; kernel_rfl) | (rw [if_neg (by decide +kernel)]; exact ⟨rfl, rfl⟩))
    (fun os started H enc _ => lifted os started H enc)

/-- The statement. -/
theorem proved : Rows.PolicySpreadsSaid := over
#print axioms proved
end Go.Proofs.Ytgmpekkoffkphaa.spreads
