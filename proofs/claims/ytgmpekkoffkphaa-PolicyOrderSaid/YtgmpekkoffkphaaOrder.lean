/- PolicyOrder: Fuller is an order. The statement holds as it stands: no condition. -/
import Derived.Test.YtgmpekkoffkphaaBits
namespace Go.Proofs.Ytgmpekkoffkphaa.order
open Go.RowKit Go.ChangeShapes Go.WideShapes Go.ChangeAt flt
set_option linter.unusedSimpArgs false

theorem law_order (p q r : Fr) (hp : p.ok) (hq : q.ok) (hr : r.ok) :
    (0 ≤ ful p.1 p.2 q.1 q.2 → 0 ≤ ful q.1 q.2 r.1 r.2 → 0 ≤ ful p.1 p.2 r.1 r.2) ∧ (0 < ful p.1 p.2 q.1 q.2 → 0 ≤ ful q.1 q.2 r.1 r.2 → 0 < ful p.1 p.2 r.1 r.2) ∧
    (ful p.1 p.2 q.1 q.2 = 0 → ful p.1 p.2 r.1 r.2 = ful q.1 q.2 r.1 r.2) := by
  have up : 0 < p.2 := by have := hp.2.2.1; omega
  have uq : 0 < q.2 := by have := hq.2.2.1; omega
  have ur : 0 < r.2 := by have := hr.2.2.1; omega
  have a1 := ful_le p q
  have a2 := ful_le q p
  have b1 := ful_le q r
  have b2 := ful_le r q
  have c1 := ful_le p r
  have c2 := ful_le r p
  rw [ful_neg p.1 p.2 q.1 q.2] at a2
  rw [ful_neg q.1 q.2 r.1 r.2] at b2
  rw [ful_neg p.1 p.2 r.1 r.2] at c2
  have t1 := leF_trans (p := r) (q := q) (r := p) ur uq up
  have t2 := leF_trans (p := p) (q := r) (r := q) up ur uq
  have t3 := leF_trans (p := p) (q := q) (r := r) up uq ur
  have t4 := leF_trans (p := q) (q := p) (r := r) uq up ur
  have t5 := leF_trans (p := r) (q := p) (r := q) ur up uq
  have s1 := ful_three p.1 p.2 r.1 r.2
  have s2 := ful_three q.1 q.2 r.1 r.2
  generalize ful p.1 p.2 q.1 q.2 = f at *
  generalize ful q.1 q.2 r.1 r.2 = g at *
  generalize ful p.1 p.2 r.1 r.2 = h at *
  refine ⟨fun h1 h2 => ?_, fun h1 h2 => ?_, fun h1 => ?_⟩
  · have := c2.2 (t1 (b2.1 (by omega)) (a2.1 (by omega)))
    omega
  · by_cases h3 : h ≤ 0
    · have := a1.2 (t2 (c1.1 h3) (b2.1 (by omega)))
      omega
    · omega
  · have x1 : g ≤ 0 → h ≤ 0 := fun k => c1.2 (t3 (a1.1 (by omega)) (b1.1 k))
    have x2 : h ≤ 0 → g ≤ 0 := fun k => b1.2 (t4 (a2.1 (by omega)) (c1.1 k))
    have x3 : -g ≤ 0 → -h ≤ 0 := fun k => c2.2 (t1 (b2.1 k) (a2.1 (by omega)))
    have x4 : -h ≤ 0 → -g ≤ 0 := fun k => b2.2 (t5 (c2.1 k) (a1.1 (by omega)))
    omega
theorem law_up (u c : Nat) (h : u < c) (hc : c ≤ 1048576) : num ((u : Int) + 1) c = (u : Int) + 1 ∧ num u c = u ∧ den c = c ∧ ful ((u : Int) + 1) c u c = 1 := by
  have hd : den c = c := by unfold den; repeat' split <;> omega
  refine ⟨?_, ?_, hd, ?_⟩
  · unfold num; rw [hd]; repeat' split <;> omega
  · unfold num; rw [hd]; repeat' split <;> omega
  · have h1 := ful_pos ((u : Int) + 1) c u c
    have h2 := ful_three ((u : Int) + 1) c u c
    rw [Int.add_mul, Int.one_mul] at h1
    omega
theorem law_wide (u c : Nat) (h : u < c) (hc : c ≤ 1048576) : num u ((c : Int) + 1) = u ∧ 0 ≤ ful u c u (den ((c : Int) + 1)) := by
  have hd : den ((c : Int) + 1) = c + 1 ∨ den ((c : Int) + 1) = c := by unfold den; repeat' split <;> omega
  refine ⟨?_, ?_⟩
  · unfold num; repeat' split <;> omega
  · have h1 := ful_lt u c u (den ((c : Int) + 1))
    rcases hd with e | e
    · rw [e, Int.mul_add, Int.mul_one] at h1
      rw [e]; omega
    · rw [e] at h1 ⊢; omega
set_option maxRecDepth 100000 in
set_option maxHeartbeats 4000000 in
theorem walk (x1 y1 x2 y2 x3 y3 used cap : Int) (w : World) :
    Calls Try.prog 6 #[prV x1 y1, prV x2 y2, prV x3 y3, .int .i64 used, .int .i64 cap] w fun e w' => e = .returned (.bool true) ∧ Below w.heap.size w w' := by
  unfold prV prC
  have hw1 := heap_alloc_new w (.cells #[.int .i64 x1, .int .i64 y1] 23)
  have hb1 := below_alloc w (.cells #[.int .i64 x1, .int .i64 y1] 23)
  have hz1 : (w.alloc (.cells #[.int .i64 x1, .int .i64 y1] 23)).heap.size = w.heap.size + 1 := by simp
  generalize hA : w.alloc (.cells #[.int .i64 x1, .int .i64 y1] 23) = WA at *
  have hw2 := heap_alloc_new WA (.cells #[.int .i64 x2, .int .i64 y2] 23)
  have hb2 := below_alloc WA (.cells #[.int .i64 x2, .int .i64 y2] 23)
  have hz2 : (WA.alloc (.cells #[.int .i64 x2, .int .i64 y2] 23)).heap.size = w.heap.size + 2 := by simp [hz1]
  rw [hz1] at hw2
  generalize hB : WA.alloc (.cells #[.int .i64 x2, .int .i64 y2] 23) = WB at *
  have hw3 := heap_alloc_new WB (.cells #[.int .i64 x3, .int .i64 y3] 23)
  have hb3 := below_alloc WB (.cells #[.int .i64 x3, .int .i64 y3] 23)
  rw [hz2] at hw3
  generalize hC : WB.alloc (.cells #[.int .i64 x3, .int .i64 y3] 23) = WC at *
  have hst : Below w.heap.size w WC := (hb1.trans (hb2.mono hb1.size)).trans (hb3.mono (by omega))
  have c1 : WC.cell? ⟨w.heap.size, 0, none⟩ = some (.int .i64 x1) := Below.at hb3 (Below.at hb2 (by rw [cell_of_row _ _ _ _ _ _ hw1]; rfl))
  have c2 : WC.cell? ⟨w.heap.size, 1, none⟩ = some (.int .i64 y1) := Below.at hb3 (Below.at hb2 (by rw [cell_of_row _ _ _ _ _ _ hw1]; rfl))
  have c3 : WC.cell? ⟨w.heap.size + 1, 0, none⟩ = some (.int .i64 x2) := Below.at hb3 (by rw [cell_of_row _ _ _ _ _ _ hw2]; rfl)
  have c4 : WC.cell? ⟨w.heap.size + 1, 1, none⟩ = some (.int .i64 y2) := Below.at hb3 (by rw [cell_of_row _ _ _ _ _ _ hw2]; rfl)
  have c5 : WC.cell? ⟨w.heap.size + 2, 0, none⟩ = some (.int .i64 x3) := by rw [cell_of_row _ _ _ _ _ _ hw3]; rfl
  have c6 : WC.cell? ⟨w.heap.size + 2, 1, none⟩ = some (.int .i64 y3) := by rw [cell_of_row _ _ _ _ _ _ hw3]; rfl
  have HW : Hid (((w.alloc (.cells #[.int .i64 x1, .int .i64 y1] 23)).alloc (.cells #[.int .i64 x2, .int .i64 y2] 23)).alloc (.cells #[.int .i64 x3, .int .i64 y3] 23) = WC) := Lib.hid (by rw [hA, hB, hC])
  clear hw1 hb1 hz1 hw2 hb2 hz2 hw3 hb3 hA hB hC WA WB
  go_enter Try.func6, Try.ntmps6
  go_wp2_with fail
  rw [HW.out]
  refine (shown_any _).mono ?_
  rintro e W6 ⟨rfl, hb6⟩
  replace c1 := Below.at hb6 c1
  replace c2 := Below.at hb6 c2
  replace c3 := Below.at hb6 c3
  replace c4 := Below.at hb6 c4
  replace c5 := Below.at hb6 c5
  replace c6 := Below.at hb6 c6
  replace hst := hst.trans (hb6.mono hst.size)
  clear hb6 HW
  have hlaw := law_order (num x1 y1, den y1) (num x2 y2, den y2) (num x3 y3, den y3) (frs_ok [(x1, y1)] 1 _ List.mem_cons_self) (frs_ok [(x2, y2)] 1 _ List.mem_cons_self) (frs_ok [(x3, y3)] 1 _ List.mem_cons_self)
  have ok1 : Fr.ok (num x1 y1, den y1) := frs_ok [(x1, y1)] 1 _ List.mem_cons_self
  have ok2 : Fr.ok (num x2 y2, den y2) := frs_ok [(x2, y2)] 1 _ List.mem_cons_self
  have ok3 : Fr.ok (num x3 y3, den y3) := frs_ok [(x3, y3)] 1 _ List.mem_cons_self
  have s11 := Fr.small1 ok1
  have s12 := Fr.small2 ok1
  have s21 := Fr.small1 ok2
  have s22 := Fr.small2 ok2
  have s31 := Fr.small1 ok3
  have s32 := Fr.small2 ok3
  clear ok1 ok2 ok3
  go_wp2_with fail
  refine (frk x1 y1 _).mono ?_
  rintro e W7 ⟨⟨v1, rfl, a1, b1, rfl, p1, q1⟩, rfl⟩
  go_wp2_with fail
  refine (frk x2 y2 _).mono ?_
  rintro e W8 ⟨⟨v2, rfl, a2, b2, rfl, p2, q2⟩, rfl⟩
  go_wp2_with fail
  refine (frk x3 y3 _).mono ?_
  rintro e W9 ⟨⟨v3, rfl, a3, b3, rfl, p3, q3⟩, rfl⟩
  clear c1 c2 c3 c4 c5 c6
  have hxx := fun W => fuk p1 q1 p1 q1 s11 s12 s11 s12 W
  have hxy := fun W => fuk p1 q1 p2 q2 s11 s12 s21 s22 W
  have hyx := fun W => fuk p2 q2 p1 q1 s21 s22 s11 s12 W
  have hyz := fun W => fuk p2 q2 p3 q3 s21 s22 s31 s32 W
  have hxz := fun W => fuk p1 q1 p3 q3 s11 s12 s31 s32 W
  rw [ful_self] at hxx
  rw [ful_neg (num x1 y1) (den y1) (num x2 y2) (den y2)] at hyx
  have t1 := ful_three (num x1 y1) (den y1) (num x2 y2) (den y2)
  have t2 := ful_three (num x2 y2) (den y2) (num x3 y3) (den y3)
  have t3 := ful_three (num x1 y1) (den y1) (num x3 y3) (den y3)
  generalize ful (num x1 y1) (den y1) (num x2 y2) (den y2) = f at *
  generalize ful (num x2 y2) (den y2) (num x3 y3) (den y3) = g at *
  generalize ful (num x1 y1) (den y1) (num x3 y3) (den y3) = h at *
  clear p1 q1 p2 q2 p3 q3 s11 s12 s21 s22 s31 s32
  obtain ⟨l1, l2, l3⟩ := hlaw
  have HF : (f = 1 ∧ (g = -1 ∨ (g = 0 ∧ h = 1) ∨ (g = 1 ∧ h = 1))) ∨ (f = 0 ∧ h = g) ∨ (f = -1) := by omega
  clear l1 l2 l3
  have hm1 : (cap % ((2 ^ 20 : Nat) : Int)).toNat < 1048576 := by omega
  have hm2 : (used % ((2 ^ 20 : Nat) : Int)).toNat < 1048576 := by omega
  have HG : f = 0 → g = 1 ∨ g = -1 ∨ g = 0 := fun _ => t2
  clear t1 t2 t3
  generalize hcm : (cap % ((2 ^ 20 : Nat) : Int)).toNat = cm at *
  generalize hum : (used % ((2 ^ 20 : Nat) : Int)).toNat = um at *
  have HC := Lib.hid hcm
  have HU := Lib.hid hum
  clear hcm hum
  have hS : ∀ n : Int, -2097152 ≤ n ∧ n ≤ 2097152 → small n := fun _ h => h
  rcases HF with ⟨rfl, rfl | ⟨rfl, rfl⟩ | ⟨rfl, rfl⟩⟩ | ⟨rfl, rfl⟩ | rfl
  case' inr.inl => rcases HG rfl with rfl | rfl | rfl
  all_goals
    clear HG
    go_wp2_with (first
      | ((with_reducible refine (hxx _).mono ?_); rintro _ _ ⟨rfl, rfl⟩)
      | ((with_reducible refine (hxy _).mono ?_); rintro _ _ ⟨rfl, rfl⟩)
      | ((with_reducible refine (hyx _).mono ?_); rintro _ _ ⟨rfl, rfl⟩)
      | ((with_reducible refine (hyz _).mono ?_); rintro _ _ ⟨rfl, rfl⟩)
      | ((with_reducible refine (hxz _).mono ?_); rintro _ _ ⟨rfl, rfl⟩)
      | (with_reducible refine wl_mask rfl 20 (by omega) _ _ rfl rfl cap rfl ?_; go_frame; refine stop ?_))
    unfold Stop
    rw [HC.out]
    clear hxx hxy hyx hyz hxz
    go_wp2_with (first | (with_reducible refine wl_mask rfl 20 (by omega) _ _ rfl rfl used rfl ?_; go_frame; refine stop ?_))
    unfold Stop
    rw [HU.out, show (1 : Int) + (cm : Int) = ((1 + cm : Nat) : Int) by omega]
    clear HC HU
    generalize hc : 1 + cm = c at *
    have hc1 : 0 < c := by omega
    have hc2 : c ≤ 1048576 := by omega
    clear hc hm1
    go_wp2_with (first | (with_reducible refine wl_rem rfl _ _ rfl um c rfl rfl hc1 ?_; go_frame; refine stop ?_))
    unfold Stop
    have hu := Nat.mod_lt um hc1
    generalize um % c = u at *
    obtain ⟨k1, k2, k3, k4⟩ := law_up u c hu hc2
    obtain ⟨k5, k6⟩ := law_wide u c hu hc2
    have H1 := Lib.hid k1
    have H2 := Lib.hid k2
    have H3 := Lib.hid k3
    have H4 := Lib.hid k4
    have H5 := Lib.hid k5
    have H6 := Lib.hid (den_le ((c : Int) + 1))
    clear k1 k2 k3 k4 k5 hm2
    go_wp2_with fail
    refine (frk ((u : Int) + 1) c _).mono ?_
    rintro e W10 ⟨⟨v4, rfl, a4, b4, rfl, p4, q4⟩, rfl⟩
    rw [H1.out] at p4
    rw [H3.out] at q4
    go_wp2_with fail
    refine (frk u c _).mono ?_
    rintro e W11 ⟨⟨v5, rfl, a5, b5, rfl, p5, q5⟩, rfl⟩
    rw [H2.out] at p5
    rw [H3.out] at q5
    go_wp2_with fail
    refine (fuk p4 q4 p5 q5 (hS _ (by omega)) (hS _ (by omega)) (hS _ (by omega)) (hS _ (by omega)) _).mono ?_
    rintro e W12 ⟨rfl, rfl⟩
    rw [H4.out]
    clear p4 q4 p5 q5
    go_wp2_with fail
    refine (frk u c _).mono ?_
    rintro e W13 ⟨⟨v5, rfl, a5, b5, rfl, p5, q5⟩, rfl⟩
    rw [H2.out] at p5
    rw [H3.out] at q5
    go_wp2_with fail
    refine (frk u ((c : Int) + 1) _).mono ?_
    rintro e W14 ⟨⟨v6, rfl, a6, b6, rfl, p6, q6⟩, rfl⟩
    rw [H5.out] at p6
    go_wp2_with fail
    refine (fuk p5 q5 p6 q6 (hS _ (by omega)) (hS _ (by omega)) (hS _ (by omega)) (hS _ (by have := H6.out; omega)) _).mono ?_
    rintro e W15 ⟨rfl, rfl⟩
    generalize ful u c u (den ((c : Int) + 1)) = z at *
    have hz : decide (0 ≤ z) = true := decide_eq_true k6
    clear p5 q5 p6 q6
    go_wp2_with fail
    exact ret_tmp rfl _ rfl rfl ⟨rfl, hst⟩
/-! ### The row's step -/
set_option maxRecDepth 100000 in
theorem lifted (os : Os) (started : os.Started) (H : Type) (enc : TypeId × Value → H) :
    ReturnsInHanded {} Try.checked os 6 .any (Rows.policyOrderSpec.pre6 enc Try.prog Try.f6 Rows.policyOrderRow.domain false) (Rows.policyOrderSpec.post enc Try.prog Try.f6 false true false false) := by
  refine returnsInHanded_of_change (C := Try.checked) own started (by kernel_rfl) Try.func6
    (ChangeSpec.witness6 (enc := enc) (C := Try.checked) false ⟨#[], #[.agg #[.int .i64 0, .int .i64 0], .agg #[.int .i64 0, .int .i64 0], .agg #[.int .i64 0, .int .i64 0], .int .i64 0, .int .i64 0], []⟩ 8 (by kernel_rfl) (by kernel_rfl) (by kernel_rfl) (by kernel_rfl)) ?_
  intro W base args ds gs before hval0 hW hcnd _
  have hval : ∀ (j : Nat) t v, Try.f6.params[j]? = some t → args[j]? = some v → Value.okWide Try.prog W .any base t v := hval0
  have hW' := hW
  obtain ⟨p, q, hA0, hV, rfl, hfz, hnd⟩ := hW
  have hA : DataW.TrodAll enc Try.prog W 0 (fun _ => true) true Try.f6.params.toList args.toList ds p := hA0
  rw [Try.params6] at hA hval
  obtain ⟨v0, vs0, d0, ds0, p0, q0, hargs, rfl, rfl, h0, r0⟩ := trodAll_cons hA
  obtain ⟨v1, vs1, d1, ds1, p1, q1, rfl, rfl, rfl, h1, r1⟩ := trodAll_cons r0
  obtain ⟨v2, vs2, d2, ds2, p2, q2, rfl, rfl, rfl, h2, r2⟩ := trodAll_cons r1
  obtain ⟨v3, vs3, d3, ds3, p3, q3, rfl, rfl, rfl, h3, r3⟩ := trodAll_cons r2
  obtain ⟨v4, vs4, d4, ds4, p4, q4, rfl, rfl, rfl, h4, r4⟩ := trodAll_cons r3
  obtain ⟨rfl, rfl, rfl⟩ := trodAll_nil r4
  obtain rfl : args = #[v0, v1, v2, v3, v4] := by cases args; simp_all
  obtain ⟨rfl, rfl⟩ := trodVars_none hV
  have k0 := h0
  have lt0 : ∀ x ∈ p0, x.block < W.heap.size := by obtain ⟨m, hm⟩ := k0; exact DataW.trod_lt m _ _ _ hm
  obtain ⟨x0, y0, rfl⟩ := open_part (hval 0 23 v0 rfl rfl) k0
  have k1 := h1
  have lt1 : ∀ x ∈ p1, x.block < W.heap.size := by obtain ⟨m, hm⟩ := k1; exact DataW.trod_lt m _ _ _ hm
  obtain ⟨x1, y1, rfl⟩ := open_part (hval 1 23 v1 rfl rfl) k1
  have k2 := h2
  have lt2 : ∀ x ∈ p2, x.block < W.heap.size := by obtain ⟨m, hm⟩ := k2; exact DataW.trod_lt m _ _ _ hm
  obtain ⟨x2, y2, rfl⟩ := open_part (hval 2 23 v2 rfl rfl) k2
  have k3 := h3
  clear h3
  obtain ⟨x3, rfl, rfl, rfl, w3⟩ := open_int Try.underlying3 (hval 3 3 v3 rfl rfl) k3
  have k4 := h4
  clear h4
  obtain ⟨x4, rfl, rfl, rfl, w4⟩ := open_int Try.underlying3 (hval 4 3 v4 rfl rfl) k4
  clear hA0 hval0
  refine (walk x0 y0 x1 y1 x2 y2 x3 x4 W ).mono fun e W' ⟨he, bel⟩ => ?_
  subst he
  exact ⟨_, rfl, _, _, _, [], _, [], hW', trodAll_mk1 (shut_bool Try.underlying4 _), (trodAll_cons_mk (Below.trod laidOut (by kernel_rfl) (of_decide_eq_true (by kernel_rfl)) k0 bel lt0) (trodAll_cons_mk (Below.trod laidOut (by kernel_rfl) (of_decide_eq_true (by kernel_rfl)) k1 bel lt1) (trodAll_cons_mk (Below.trod laidOut (by kernel_rfl) (of_decide_eq_true (by kernel_rfl)) k2 bel lt2) (trodAll_cons_mk (shut_int Try.underlying3 w3) (trodAll_cons_mk (shut_int Try.underlying3 w4) trodAll_mk0))))), rfl, bel.frame _, fun h => by cases h⟩

theorem over : Rows.policyOrderRow.holds Try.pinned (OpenSpec.ofChange Rows.policyOrderSpec) :=
  OpenClaim.holds_of_wide 6 Try.f6 rfl rfl rfl rfl rfl rfl rfl ⟨rfl, rfl, rfl, rfl, rfl⟩ rfl rfl rfl rfl rfl (by kernel_rfl) Try.func6 (by kernel_rfl)
    (of_decide_eq_true (by kernel_rfl)) (by unfold Func.isWrapper; first | (rw [if_pos (by decide +kernel)]; kernel_rfl) | (rw [if_neg (by decide +kernel)]; exact ⟨rfl, rfl⟩))
    (fun os started H enc _ => lifted os started H enc)

/-- The statement. -/
theorem proved : Rows.PolicyOrderSaid := over
#print axioms proved
end Go.Proofs.Ytgmpekkoffkphaa.order
