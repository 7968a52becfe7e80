/- PolicyPairs: of two fractions one is fuller, or neither. The statement holds as it stands: no condition. -/
import Derived.Test.YtgmpekkoffkphaaPlain
namespace Go.Proofs.Ytgmpekkoffkphaa.pairs
open Go.RowKit Go.ChangeShapes Go.WideShapes Go.ChangeAt flt
set_option linter.unusedSimpArgs false

theorem law_pairs (p q : Fr) (hp : p.ok) (hq : q.ok) : ∃ f : Int, f = ful p.1 p.2 q.1 q.2 ∧ wrs [p, q] 2 = (if f < 0 then 1 else 0) ∧ bst [p, q] 2 ≤ 1 ∧
    worthB [p, q] 0 0 = false ∧ worthB [p, q] 1 1 = false ∧ worthB [p, q] 0 2 = false ∧ worthB [p, q] (-1) 0 = false ∧
    ((0 < f ∧ worthB [p, q] 1 0 = false) ∨ (f = 0 ∧ worthB [p, q] 0 1 = false ∧ worthB [p, q] 1 0 = false) ∨ (f < 0 ∧ worthB [p, q] 0 1 = false)) := by
  obtain ⟨x, u⟩ := p
  obtain ⟨y, v⟩ := q
  have hu : 1 ≤ u := hp.2.2.1
  have hv : 1 ≤ v := hq.2.2.1
  have w00 : worthB [(x, u), (y, v)] 0 0 = decide (0 < ful x u (x + 1) u) := by simp [worthB, isIn]
  have w11 : worthB [(x, u), (y, v)] 1 1 = decide (0 < ful y v (y + 1) v) := by simp [worthB, isIn]
  have w01 : worthB [(x, u), (y, v)] 0 1 = decide (0 < ful x u (y + 1) v) := by simp [worthB, isIn]
  have w10 : worthB [(x, u), (y, v)] 1 0 = decide (0 < ful y v (x + 1) u) := by simp [worthB, isIn]
  have a0 := ful_pos x u (x + 1) u
  have a1 := ful_pos y v (y + 1) v
  have a2 := ful_pos x u (y + 1) v
  have a3 := ful_pos y v (x + 1) u
  have a4 := ful_pos x u y v
  have a5 := ful_lt x u y v
  have e0 : (x + 1) * u = x * u + u := by rw [Int.add_mul, Int.one_mul]
  have e1 : (y + 1) * v = y * v + v := by rw [Int.add_mul, Int.one_mul]
  have e2 : (y + 1) * u = y * u + u := by rw [Int.add_mul, Int.one_mul]
  have e3 : (x + 1) * v = x * v + v := by rw [Int.add_mul, Int.one_mul]
  refine ⟨_, rfl, ?_, by have := bst_le [(x, u), (y, v)] 2; omega, by rw [w00, decide_eq_false]; omega, by rw [w11, decide_eq_false]; omega, rfl, rfl, ?_⟩
  · have h1 : wrs [(x, u), (y, v)] 1 = 0 := by
      show (if 0 < ful x u x u then 0 else 0) = 0
      split <;> rfl
    show (if 0 < fulAt [(x, u), (y, v)] 1 (wrs [(x, u), (y, v)] 1) then 1 else wrs [(x, u), (y, v)] 1) = _
    rw [h1]
    show (if 0 < ful y v x u then 1 else 0) = _
    rw [ful_neg x u y v]
    show _ = if ful x u y v < 0 then 1 else 0
    split <;> split <;> omega
  · rw [w01, w10]
    show (0 < ful x u y v ∧ _) ∨ (ful x u y v = 0 ∧ _) ∨ (ful x u y v < 0 ∧ _)
    by_cases h1 : 0 < ful x u y v
    · exact .inl ⟨h1, decide_eq_false (by omega)⟩
    · by_cases h2 : ful x u y v < 0
      · exact .inr (.inr ⟨h2, decide_eq_false (by omega)⟩)
      · exact .inr (.inl ⟨by omega, decide_eq_false (by omega), decide_eq_false (by omega)⟩)
set_option maxRecDepth 100000 in
set_option maxHeartbeats 2000000 in
theorem walk (x1 y1 x2 y2 : Int) (w : World) :
    Calls Try.prog 3 #[prV x1 y1, prV x2 y2] w fun e w' => e = .returned (.bool true) ∧ Below w.heap.size w w' := by
  unfold prV prC
  go_enter Try.func3, Try.ntmps3
  go_wp2_with fail
  have hw1 := heap_alloc_new w (.cells #[.int .i64 x1, .int .i64 y1] 23)
  have hw2 := heap_alloc_new (w.alloc (.cells #[.int .i64 x1, .int .i64 y1] 23)) (.cells #[.int .i64 x2, .int .i64 y2] 23)
  have hb1 := below_alloc w (.cells #[.int .i64 x1, .int .i64 y1] 23)
  have hb2 := below_alloc (w.alloc (.cells #[.int .i64 x1, .int .i64 y1] 23)) (.cells #[.int .i64 x2, .int .i64 y2] 23)
  have hz : (w.alloc (.cells #[.int .i64 x1, .int .i64 y1] 23)).heap.size = w.heap.size + 1 := by simp
  have hst := hb1.trans (hb2.mono hb1.size)
  have c1 : ((w.alloc (.cells #[.int .i64 x1, .int .i64 y1] 23)).alloc (.cells #[.int .i64 x2, .int .i64 y2] 23)).cell? ⟨w.heap.size, 0, none⟩ = some (.int .i64 x1) := Below.at hb2 (by rw [cell_of_row _ _ _ _ _ _ hw1]; rfl)
  have c2 : ((w.alloc (.cells #[.int .i64 x1, .int .i64 y1] 23)).alloc (.cells #[.int .i64 x2, .int .i64 y2] 23)).cell? ⟨w.heap.size, 1, none⟩ = some (.int .i64 y1) := Below.at hb2 (by rw [cell_of_row _ _ _ _ _ _ hw1]; rfl)
  have c3 : ((w.alloc (.cells #[.int .i64 x1, .int .i64 y1] 23)).alloc (.cells #[.int .i64 x2, .int .i64 y2] 23)).cell? ⟨w.heap.size + 1, 0, none⟩ = some (.int .i64 x2) := by rw [← hz, cell_of_row _ _ _ _ _ _ hw2]; rfl
  have c4 : ((w.alloc (.cells #[.int .i64 x1, .int .i64 y1] 23)).alloc (.cells #[.int .i64 x2, .int .i64 y2] 23)).cell? ⟨w.heap.size + 1, 1, none⟩ = some (.int .i64 y2) := by rw [← hz, cell_of_row _ _ _ _ _ _ hw2]; rfl
  clear hw1 hw2 hb1 hb2 hz
  generalize (w.alloc (.cells #[.int .i64 x1, .int .i64 y1] 23)).alloc (.cells #[.int .i64 x2, .int .i64 y2] 23) = W2 at *
  refine (shown_any _).mono ?_
  rintro e W6 ⟨rfl, hb6⟩
  replace c1 := Below.at hb6 c1
  replace c2 := Below.at hb6 c2
  replace c3 := Below.at hb6 c3
  replace c4 := Below.at hb6 c4
  replace hst := hst.trans (hb6.mono hst.size)
  clear hb6
  go_wp2_with fail
  have hp : IsPs (W6.alloc (.cells #[.int .i64 x1, .int .i64 y1, .int .i64 x2, .int .i64 y2] 23)) (.slice (some ⟨W6.heap.size, 0, none⟩) 2 2) [(x1, y1), (x2, y2)] := by
    have h := heap_alloc_new W6 (.cells #[.int .i64 x1, .int .i64 y1, .int .i64 x2, .int .i64 y2] 23)
    refine .inr ⟨W6.heap.size, 0, 2, rfl, by simp, by simp [maxLen], by simp, fun i hi => ?_⟩
    match i, hi with
    | 0, _ => exact ⟨by rw [cell_of_row _ _ _ _ _ _ h]; rfl, by rw [cell_of_row _ _ _ _ _ _ h]; rfl⟩
    | 1, _ => exact ⟨by rw [cell_of_row _ _ _ _ _ _ h]; rfl, by rw [cell_of_row _ _ _ _ _ _ h]; rfl⟩
  have hb := below_alloc W6 (.cells #[.int .i64 x1, .int .i64 y1, .int .i64 x2, .int .i64 y2] 23)
  replace hst := hst.trans (hb.mono hst.size)
  clear c1 c2 c3 c4 hb
  generalize (some ⟨W6.heap.size, 0, none⟩ : Option Addr) = ad at *
  generalize W6.alloc (.cells #[.int .i64 x1, .int .i64 y1, .int .i64 x2, .int .i64 y2] 23) = W7 at *
  refine (both_any _ _ _ hp).mono ?_
  rintro e W8 ⟨va, vb, rfl, hox, _, hb8⟩
  have hl : frs [(x1, y1), (x2, y2)] (min [(x1, y1), (x2, y2)].length 40) = [(num x1 y1, den y1), (num x2 y2, den y2)] := rfl
  rw [hl] at hox
  have hok : ∀ p ∈ [(num x1 y1, den y1), (num x2 y2, den y2)], Fr.ok p := by rw [← hl]; exact frs_ok _ _
  have hs := hox.isCs
  replace hst := hst.trans (hb8.mono hst.size)
  clear hox hl hp hb8
  have hlaw := law_pairs (num x1 y1, den y1) (num x2 y2, den y2) (hok _ List.mem_cons_self) (hok _ (List.mem_cons_of_mem _ List.mem_cons_self))
  generalize num x1 y1 = m1 at *
  generalize den y1 = n1 at *
  generalize num x2 y2 = m2 at *
  generalize den y2 = n2 at *
  obtain ⟨f, hf, l1, l2, l3, l4, l5, l6, l7⟩ := hlaw
  have ok1 := hok _ List.mem_cons_self
  have ok2 := hok (m2, n2) (List.mem_cons_of_mem _ List.mem_cons_self)
  go_wp2_with fail
  refine (spread_any va _ hok _ hs).mono ?_
  rintro e W9 ⟨rfl, hb9⟩
  rw [show [(m1, n1), (m2, n2)].length = 2 from rfl]
  generalize wrs [(m1, n1), (m2, n2)] 2 = ws at *
  have HW := Lib.hid l1
  replace hs := hs.step hb9
  replace hst := hst.trans (hb9.mono hst.size)
  clear l1 hb9
  generalize bst [(m1, n1), (m2, n2)] 2 = bs at *
  have hsv := hs
  rcases hsv with ⟨a, c, rfl, _, hnil⟩ | ⟨b, o, c, rfl, hne, hm, _, hat⟩
  · cases hnil
  obtain ⟨v0, hc0, p0, q0, rfl, hp0, hq0⟩ := hat 0 (by simp)
  obtain ⟨v1, hc1, p1, q1, rfl, hp1, hq1⟩ := hat 1 (by simp)
  have hff := fun W => fuk hp0 hq0 hp1 hq1 (Fr.small1 ok1) (Fr.small2 ok1) (Fr.small1 ok2) (Fr.small2 ok2) W
  have hf' : ful [(m1, n1), (m2, n2)][0].1 [(m1, n1), (m2, n2)][0].2 [(m1, n1), (m2, n2)][1].1 [(m1, n1), (m2, n2)][1].2 = f := hf.symm
  rw [hf'] at hff
  clear hp0 hq0 hp1 hq1 ok1 ok2 hf hf' hne hm hat
  have HL : Hid ([(m1, n1), (m2, n2)].length = 2) := Lib.hid rfl
  go_wp2_with fail
  have hc0' : W9.drew.cell? ⟨b, o, none⟩ = some (.complex .f64 p0 q0) := hc0
  have hc1' : W9.drew.cell? ⟨b, o + 1, none⟩ = some (.complex .f64 p1 q1) := hc1
  have hsD : IsCs W9.drew _ _ := hs.step ((Below.refl _ _).drew)
  have hstD := hst.drew
  clear hc0 hc1 hs hst
  refine Reg.region_ord (S := fun w' => w' = W9.drew) [(0, 1), (1, 1), (2, 1), (3, 1), (4, 1), (5, 1), (6, 0), (7, 0)] (by kernel_rfl) (by kernel_rfl) (by decide) (by kernel_rfl) (fun _ _ _ _ _ h => h) ?_
  generalize W9.drew = W at *
  refine Reg.ord_move rfl _ rfl rfl rfl ?_; simp only [Act.put, Act.eval, List.setIfInBounds_toArray, List.set_cons_succ, List.set_cons_zero, Array.getD_eq_getD_getElem?, List.getElem?_toArray, List.getElem?_cons_succ, List.getElem?_cons_zero, Option.getD_some]
  refine Reg.ord_val rfl rfl rfl (.pointer (some ⟨b, o, none⟩)) (fun w' _ => by go_simp) ?_; simp only [Act.put, Act.eval, List.setIfInBounds_toArray, List.set_cons_succ, List.set_cons_zero, Array.getD_eq_getD_getElem?, List.getElem?_toArray, List.getElem?_cons_succ, List.getElem?_cons_zero, Option.getD_some]
  refine Reg.ord_val rfl rfl rfl (.complex .f64 p0 q0) (fun w' h => by subst h; exact run_load_c _ rfl (by simp [Act.eval]) hc0') ?_; simp only [Act.put, Act.eval, List.setIfInBounds_toArray, List.set_cons_succ, List.set_cons_zero, Array.getD_eq_getD_getElem?, List.getElem?_toArray, List.getElem?_cons_succ, List.getElem?_cons_zero, Option.getD_some]
  refine Reg.ord_move rfl _ rfl rfl rfl ?_; simp only [Act.put, Act.eval, List.setIfInBounds_toArray, List.set_cons_succ, List.set_cons_zero, Array.getD_eq_getD_getElem?, List.getElem?_toArray, List.getElem?_cons_succ, List.getElem?_cons_zero, Option.getD_some]
  refine Reg.ord_val rfl rfl rfl (.pointer (some ⟨b, o + 1, none⟩)) (fun w' _ => by go_simp) ?_; simp only [Act.put, Act.eval, List.setIfInBounds_toArray, List.set_cons_succ, List.set_cons_zero, Array.getD_eq_getD_getElem?, List.getElem?_toArray, List.getElem?_cons_succ, List.getElem?_cons_zero, Option.getD_some]
  refine Reg.ord_val rfl rfl rfl (.complex .f64 p1 q1) (fun w' h => by subst h; exact run_load_c _ rfl (by simp [Act.eval]) hc1') ?_; simp only [Act.put, Act.eval, List.setIfInBounds_toArray, List.set_cons_succ, List.set_cons_zero, Array.getD_eq_getD_getElem?, List.getElem?_toArray, List.getElem?_cons_succ, List.getElem?_cons_zero, Option.getD_some]
  refine Reg.ord_call rfl rfl 11 _ (by go_simp) (hff _) (fun W4 hb4 => ⟨hb4.symm, ?_⟩)
  subst hb4
  simp only [Act.put, Act.eval, List.setIfInBounds_toArray, List.set_cons_succ, List.set_cons_zero, Array.getD_eq_getD_getElem?, List.getElem?_toArray, List.getElem?_cons_succ, List.getElem?_cons_zero, Option.getD_some]
  refine Reg.ord_step rfl ?_
  go_wp2_with fail
  refine ⟨trivial, ?_⟩
  refine Reg.ord_nil ?_
  clear hff hc0' hc1'
  rcases l7 with ⟨l7, l8⟩ | ⟨l7, l8, l9⟩ | ⟨l7, l8⟩
  · have hw := HW.out
    rw [if_neg (by omega)] at hw
    subst hw
    clear HW
    go_wp2_with fail
    refine (worth_any _ _ hok 0 1 _ hsD).mono ?_
    rintro e W10 ⟨rfl, hb10⟩
    generalize worthB [(m1, n1), (m2, n2)] 0 1 = t1
    have hsE := hsD.step hb10
    have hstE := hstD.trans (hb10.mono hstD.size)
    clear hsD hstD hb10
    go_wp2_with fail
    refine (worth_any _ _ hok 1 0 _ hsE).mono ?_
    rintro e W11 ⟨rfl, hb11⟩
    rw [l8]
    have hsF := hsE.step hb11
    have hstF := hstE.trans (hb11.mono hstE.size)
    clear hsE hstE hb11
    cases t1
    all_goals
      go_wp2_with fail
      refine (worth_any _ _ hok 0 0 _ hsF).mono ?_
      rintro e W12 ⟨rfl, hb12⟩
      rw [l3]
      have hsG := hsF.step hb12
      have hstG := hstF.trans (hb12.mono hstF.size)
      clear hsF hstF hb12
      go_wp2_with fail
      refine (worth_any _ _ hok 1 1 _ hsG).mono ?_
      rintro e W13 ⟨rfl, hb13⟩
      rw [l4]
      have hsH := hsG.step hb13
      have hstH := hstG.trans (hb13.mono hstG.size)
      clear hsG hstG hb13
      go_wp2_with fail
      refine (worth_any _ _ hok 0 2 _ hsH).mono ?_
      rintro e W14 ⟨rfl, hb14⟩
      rw [l5]
      have hsI := hsH.step hb14
      have hstI := hstH.trans (hb14.mono hstH.size)
      clear hsH hstH hb14
      go_wp2_with fail
      refine (worth_any _ _ hok (-1) 0 _ hsI).mono ?_
      rintro e W15 ⟨rfl, hb15⟩
      rw [l6]
      have hstJ := hstI.trans (hb15.mono hstI.size)
      clear hsI hstI hb15
      go_wp2_with fail
      exact ret_tmp rfl _ rfl rfl ⟨rfl, hstJ⟩
  · have hw := HW.out
    rw [if_neg (by omega)] at hw
    subst hw
    clear HW
    go_wp2_with fail
    refine (worth_any _ _ hok 0 1 _ hsD).mono ?_
    rintro e W10 ⟨rfl, hb10⟩
    rw [l8]
    have hsE := hsD.step hb10
    have hstE := hstD.trans (hb10.mono hstD.size)
    clear hsD hstD hb10
    go_wp2_with fail
    refine (worth_any _ _ hok 1 0 _ hsE).mono ?_
    rintro e W11 ⟨rfl, hb11⟩
    rw [l9]
    have hsF := hsE.step hb11
    have hstF := hstE.trans (hb11.mono hstE.size)
    clear hsE hstE hb11
    all_goals
      go_wp2_with fail
      refine (worth_any _ _ hok 0 0 _ hsF).mono ?_
      rintro e W12 ⟨rfl, hb12⟩
      rw [l3]
      have hsG := hsF.step hb12
      have hstG := hstF.trans (hb12.mono hstF.size)
      clear hsF hstF hb12
      go_wp2_with fail
      refine (worth_any _ _ hok 1 1 _ hsG).mono ?_
      rintro e W13 ⟨rfl, hb13⟩
      rw [l4]
      have hsH := hsG.step hb13
      have hstH := hstG.trans (hb13.mono hstG.size)
      clear hsG hstG hb13
      go_wp2_with fail
      refine (worth_any _ _ hok 0 2 _ hsH).mono ?_
      rintro e W14 ⟨rfl, hb14⟩
      rw [l5]
      have hsI := hsH.step hb14
      have hstI := hstH.trans (hb14.mono hstH.size)
      clear hsH hstH hb14
      go_wp2_with fail
      refine (worth_any _ _ hok (-1) 0 _ hsI).mono ?_
      rintro e W15 ⟨rfl, hb15⟩
      rw [l6]
      have hstJ := hstI.trans (hb15.mono hstI.size)
      clear hsI hstI hb15
      go_wp2_with fail
      exact ret_tmp rfl _ rfl rfl ⟨rfl, hstJ⟩
  · have hw := HW.out
    rw [if_pos (by omega)] at hw
    subst hw
    clear HW
    go_wp2_with fail
    refine (worth_any _ _ hok 0 1 _ hsD).mono ?_
    rintro e W10 ⟨rfl, hb10⟩
    rw [l8]
    have hsE := hsD.step hb10
    have hstE := hstD.trans (hb10.mono hstD.size)
    clear hsD hstD hb10
    go_wp2_with fail
    refine (worth_any _ _ hok 1 0 _ hsE).mono ?_
    rintro e W11 ⟨rfl, hb11⟩
    generalize worthB [(m1, n1), (m2, n2)] 1 0 = t2
    have hsF := hsE.step hb11
    have hstF := hstE.trans (hb11.mono hstE.size)
    clear hsE hstE hb11
    cases t2
    all_goals
      go_wp2_with fail
      refine (worth_any _ _ hok 0 0 _ hsF).mono ?_
      rintro e W12 ⟨rfl, hb12⟩
      rw [l3]
      have hsG := hsF.step hb12
      have hstG := hstF.trans (hb12.mono hstF.size)
      clear hsF hstF hb12
      go_wp2_with fail
      refine (worth_any _ _ hok 1 1 _ hsG).mono ?_
      rintro e W13 ⟨rfl, hb13⟩
      rw [l4]
      have hsH := hsG.step hb13
      have hstH := hstG.trans (hb13.mono hstG.size)
      clear hsG hstG hb13
      go_wp2_with fail
      refine (worth_any _ _ hok 0 2 _ hsH).mono ?_
      rintro e W14 ⟨rfl, hb14⟩
      rw [l5]
      have hsI := hsH.step hb14
      have hstI := hstH.trans (hb14.mono hstH.size)
      clear hsH hstH hb14
      go_wp2_with fail
      refine (worth_any _ _ hok (-1) 0 _ hsI).mono ?_
      rintro e W15 ⟨rfl, hb15⟩
      rw [l6]
      have hstJ := hstI.trans (hb15.mono hstI.size)
      clear hsI hstI hb15
      go_wp2_with fail
      exact ret_tmp rfl _ rfl rfl ⟨rfl, hstJ⟩
/-! ### The row's step -/
set_option maxRecDepth 100000 in
theorem lifted (os : Os) (started : os.Started) (H : Type) (enc : TypeId × Value → H) :
    ReturnsInHanded {} Try.checked os 3 .any (Rows.policyPairsSpec.pre6 enc Try.prog Try.f3 Rows.policyPairsRow.domain false) (Rows.policyPairsSpec.post enc Try.prog Try.f3 false true false false) := by
  refine returnsInHanded_of_change (C := Try.checked) own started (by kernel_rfl) Try.func3
    (ChangeSpec.witness6 (enc := enc) (C := Try.checked) false ⟨#[], #[.agg #[.int .i64 0, .int .i64 0], .agg #[.int .i64 0, .int .i64 0]], []⟩ 8 (by kernel_rfl) (by kernel_rfl) (by kernel_rfl) (by kernel_rfl)) ?_
  intro W base args ds gs before hval0 hW hcnd _
  have hval : ∀ (j : Nat) t v, Try.f3.params[j]? = some t → args[j]? = some v → Value.okWide Try.prog W .any base t v := hval0
  have hW' := hW
  obtain ⟨p, q, hA0, hV, rfl, hfz, hnd⟩ := hW
  have hA : DataW.TrodAll enc Try.prog W 0 (fun _ => true) true Try.f3.params.toList args.toList ds p := hA0
  rw [Try.params3] at hA hval
  obtain ⟨v0, vs0, d0, ds0, p0, q0, hargs, rfl, rfl, h0, r0⟩ := trodAll_cons hA
  obtain ⟨v1, vs1, d1, ds1, p1, q1, rfl, rfl, rfl, h1, r1⟩ := trodAll_cons r0
  obtain ⟨rfl, rfl, rfl⟩ := trodAll_nil r1
  obtain rfl : args = #[v0, v1] := by cases args; simp_all
  obtain ⟨rfl, rfl⟩ := trodVars_none hV
  have k0 := h0
  have lt0 : ∀ x ∈ p0, x.block < W.heap.size := by obtain ⟨m, hm⟩ := k0; exact DataW.trod_lt m _ _ _ hm
  obtain ⟨x0, y0, rfl⟩ := open_part (hval 0 23 v0 rfl rfl) k0
  have k1 := h1
  have lt1 : ∀ x ∈ p1, x.block < W.heap.size := by obtain ⟨m, hm⟩ := k1; exact DataW.trod_lt m _ _ _ hm
  obtain ⟨x1, y1, rfl⟩ := open_part (hval 1 23 v1 rfl rfl) k1
  clear hA0 hval0
  refine (walk x0 y0 x1 y1 W ).mono fun e W' ⟨he, bel⟩ => ?_
  subst he
  exact ⟨_, rfl, _, _, _, [], _, [], hW', trodAll_mk1 (shut_bool Try.underlying4 _), (trodAll_cons_mk (Below.trod laidOut (by kernel_rfl) (of_decide_eq_true (by kernel_rfl)) k0 bel lt0) (trodAll_cons_mk (Below.trod laidOut (by kernel_rfl) (of_decide_eq_true (by kernel_rfl)) k1 bel lt1) trodAll_mk0)), rfl, bel.frame _, fun h => by cases h⟩

theorem over : Rows.policyPairsRow.holds Try.pinned (OpenSpec.ofChange Rows.policyPairsSpec) :=
  OpenClaim.holds_of_wide 3 Try.f3 rfl rfl rfl rfl rfl rfl rfl ⟨rfl, rfl, rfl, rfl, rfl⟩ rfl rfl rfl rfl rfl (by kernel_rfl) Try.func3 (by kernel_rfl)
    (of_decide_eq_true (by kernel_rfl)) (by unfold Func.isWrapper; first | (rw [if_pos (by decide +kernel)]; kernel_rfl) | (rw [if_neg (by decide +kernel)]; exact ⟨rfl, rfl⟩))
    (fun os started H enc _ => lifted os started H enc)

/-- The statement. -/
theorem proved : Rows.PolicyPairsSaid := over
#print axioms proved
end Go.Proofs.Ytgmpekkoffkphaa.pairs
