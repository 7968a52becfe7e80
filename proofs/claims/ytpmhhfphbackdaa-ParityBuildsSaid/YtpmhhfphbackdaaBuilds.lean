/- ParityBuilds: sectors have one parity. The statement holds as it stands: no condition. -/
import Derived.Test.YtpmhhfphbackdaaOwn2
namespace Go.Proofs.Ytpmhhfphbackdaa.builds
open Go.RowKit Go.ChangeShapes Go.WideShapes Go.ChangeAt
set_option linter.unusedSimpArgs false

theorem check_any' (v : Value) (ss : List Sec) (w : World) (hs : IsSecs w v ss) :
    Calls Try.prog 17 #[v] w fun e w' => e = .returned (.bool (secEq (par ss) zeroS)) ∧ Below w.heap.size w w' := check_any v ss w hs
theorem run_eq_val (w : World) {ρ : Operand → Value} (o : Oper) (x y : Operand) (ho : o.op = .binOp .eql 24 x y 24) (s t : Sec) (hx : ρ x = secV s) (hy : ρ y = secV t) : (execOp ρ o).run Try.prog w = .ok (.value (.bool (secEq s t))) w := by
  unfold execOp
  simp only [ho, hx, hy, Sem.run_bind, run_guard_sec, run_eql_sec, Result.andThen_ok, Sem.run_pure]
theorem run_bne (w : World) {ρ : Operand → Value} (o : Oper) (x y : Operand) (ho : o.op = .binOp .neq 4 x y 4) (t : Bool) (hx : ρ x = .bool t) (hy : ρ y = .bool t) : (execOp ρ o).run Try.prog w = .ok (.value (.bool false)) w := by
  unfold execOp
  simp only [ho, hx, hy]
  cases t <;> go_simp

set_option maxRecDepth 100000 in
set_option maxHeartbeats 2000000 in
theorem walk (v : Value) (ss : List Sec) (i : Int) (a b c : Sec) (w : World) (hs : IsSecs w v ss) (_wi : (Lit.int .i64 i).wf = true) :
    Calls Try.prog 3 #[v, .int .i64 i, secV a, secV b, secV c] w fun e w' => e = .returned (.bool true) ∧ Below w.heap.size w w' := by
  have hst := St.start w
  obtain ⟨a0, n, c0, rfl⟩ := hs.form
  obtain ⟨hn, hnc, hnm⟩ := hs.len
  unfold maxLen at hnm
  have hs' := hs.cut (min n 40) rfl
  obtain ⟨aL, mL, cL, hvL⟩ := hs'.form
  rw [hvL] at hs'
  have HL := Lib.hid hvL
  generalize hL : ss.take 40 = L at *
  have hL40 : L.length ≤ 40 := by rw [← hL, List.length_take]; omega
  obtain ⟨hmL, hmcL, _⟩ := hs'.len
  subst hmL
  clear hvL hs hn hL
  go_enter Try.func3, Try.ntmps3
  go_wp2_with (first
    | (with_reducible refine wl_box rfl _ rfl a rfl hst ?_; intro b1 W1 hb1 hc1 hbl1 hst1; clear hst; go_frame)
    | (with_reducible refine wl_box rfl _ rfl b rfl hst1 ?_; intro b2 W2 hb2 hc2 hbl2 hst2; clear hst1; go_frame)
    | (with_reducible refine wl_box rfl _ rfl c rfl hst2 ?_; intro b3 W3 hb3 hc3 hbl3 hst3; clear hst2; go_frame))
  clear hbl1 hbl2 hbl3 hb1 hc1 hb2 hc2 hb3 hc3
  refine (shown_any _).mono ?_
  rintro e W4 ⟨rfl, hbl4⟩
  have hst4 := hst3.step hbl4
  clear hst3 hbl4
  go_wp2_with (first
    | (with_reducible refine wl_min40 rfl _ rfl n rfl ?_; go_frame)
    | (with_reducible refine wl_cut' rfl _ _ rfl a0 n c0 (min n 40) rfl rfl (by omega) _ HL.out ?_; go_frame)
    | (refine wl_slice0 rfl rfl hst4 ?_; intro g0 W5 hg0 hcg0 hblg0 hst5 hrow0; go_frame; refine stop ?_))
  unfold Stop
  have hlt4 : ∀ p ∈ [(b3, c), (b2, b), (b1, a)], p.1 < W4.heap.size := fun p hp => hst4.lt (b := p.1) (s := p.2) hp
  have hge4 := hst4.below.size
  have hsL := hs'.since hst5
  clear hst4 hblg0
  go_wp2_with (first | (at_builtin; refine stop ?_))
  unfold Stop
  refine wl_append rfl _ _ rfl g0 _ [] ?_ (hrow0.owned (Nat.le_refl _)) _ L ?_ hsL (by simp; omega) (by omega) ?_
  · simp [Act.eval]
  · simp [Act.eval]
  intro v12 W6 hown6 hgr6
  rw [List.nil_append] at hown6
  have hst6 := hst5.grown hgr6 (fun k hk => by
    simp only [Value.ownBlock, Option.some.injEq] at hk
    subst hk
    exact ⟨by omega, fun p hp => by have := hlt4 p hp; omega⟩)
  clear hst5 hgr6 hrow0 hlt4 hge4 hg0 hcg0 hsL
  go_frame
  go_wp2_with fail
  refine (rebuild_any v12 L i _ hown6.isSecs).mono ?_
  rintro e W7 ⟨rfl, hbl7⟩
  have hst7 := hst6.step hbl7
  replace hown6 := hown6.step hbl7
  clear hst6 hbl7
  go_wp2_with (first
    | (refine wl_new rfl rfl 13 rfl rfl _ rfl hst7 (rebS L i) (by simp [Act.put]) (fun v => by simp [Act.eval, Act.put]) ?_; intro b8 W8 hb8 hc8 hbl8 hst8; clear hst7; replace hown6 := hown6.step hbl8; clear hbl8 hb8 hc8; go_frame))
  refine (rrebuild_any (.slice aL L.length cL) L i _ (hs'.since hst8)).mono ?_
  rintro e W9 ⟨rfl, hbl9⟩
  have hst9 := hst8.step hbl9
  replace hown6 := hown6.step hbl9
  clear hst8 hbl9
  go_wp2_with (first
    | (refine wl_new rfl rfl 15 rfl rfl _ rfl hst9 (rebS L i) (by simp [Act.put]) (fun v => by simp [Act.eval, Act.put]) ?_; intro b10 W10 hb10 hc10 hbl10 hst10; clear hst9; replace hown6 := hown6.step hbl10; clear hbl10 hb10 hc10; go_frame))
  have hstD := hst10.step Below.draws
  have hownO := hown6.step Below.draws
  have hownD := hownO.isSecs
  have hsD := hs'.since hstD
  clear hst10 hown6 hs'
  refine Reg.region_ord (S := fun w' => Below W10.drew.heap.size W10.drew w') [(0, 1), (1, 1), (2, 1), (3, 1), (4, 1), (5, 1), (6, 1), (7, 1), (8, 1), (9, 1), (11, 1), (10, 0), (12, 0), (13, 1), (14, 1), (15, 1), (16, 1), (17, 1), (19, 1), (20, 1), (18, 0), (21, 0), (22, 1), (23, 1), (24, 1), (25, 1), (26, 1), (27, 1), (29, 1), (30, 1), (31, 1), (28, 0), (32, 0), (33, 1), (34, 1), (35, 1), (36, 1), (38, 1), (40, 1), (37, 0), (39, 0), (41, 1), (42, 1), (43, 1)] (by kernel_rfl) (by kernel_rfl) (by decide) (by kernel_rfl) (fun _ _ _ _ _ h => h) ?_
  generalize W10.drew = W11 at *
  have hB := Below.refl W11.heap.size W11
  refine Reg.ord_val rfl (by simp [Region.wanted, yielded]) hB _ (fun w' hS => (hstD.step hS).load mem1 _ rfl (by simp [Act.eval])) ?_
  simp only [Act.put, Act.eval, List.setIfInBounds_toArray, List.set_cons_succ, List.set_cons_zero, Array.getD_eq_getD_getElem?, List.getElem?_toArray, List.getElem?_cons_succ, List.getElem?_cons_zero, Option.getD_some]
  refine Reg.ord_val rfl (by simp [Region.wanted, yielded]) hB _ (fun w' hS => (hstD.step hS).load mem0 _ rfl (by simp [Act.eval])) ?_
  simp only [Act.put, Act.eval, List.setIfInBounds_toArray, List.set_cons_succ, List.set_cons_zero, Array.getD_eq_getD_getElem?, List.getElem?_toArray, List.getElem?_cons_succ, List.getElem?_cons_zero, Option.getD_some]
  refine ord_neqF rfl (by simp [Region.wanted, yielded]) hB _ _ rfl _ _ (by simp [Act.eval] <;> rfl) (by simp [Act.eval] <;> rfl) (secEq_same rfl) ?_
  simp only [Act.put, Act.eval, List.setIfInBounds_toArray, List.set_cons_succ, List.set_cons_zero, Array.getD_eq_getD_getElem?, List.getElem?_toArray, List.getElem?_cons_succ, List.getElem?_cons_zero, Option.getD_some]
  refine Reg.ord_move rfl _ rfl (by simp [Region.wanted, yielded]) hB ?_
  simp only [Act.put, Act.eval, List.setIfInBounds_toArray, List.set_cons_succ, List.set_cons_zero, Array.getD_eq_getD_getElem?, List.getElem?_toArray, List.getElem?_cons_succ, List.getElem?_cons_zero, Option.getD_some]
  refine Reg.ord_move rfl _ rfl (by simp [Region.wanted, yielded]) hB ?_
  simp only [Act.put, Act.eval, List.setIfInBounds_toArray, List.set_cons_succ, List.set_cons_zero, Array.getD_eq_getD_getElem?, List.getElem?_toArray, List.getElem?_cons_succ, List.getElem?_cons_zero, Option.getD_some]
  refine Reg.ord_move rfl _ rfl (by simp [Region.wanted, yielded]) hB ?_
  simp only [Act.put, Act.eval, List.setIfInBounds_toArray, List.set_cons_succ, List.set_cons_zero, Array.getD_eq_getD_getElem?, List.getElem?_toArray, List.getElem?_cons_succ, List.getElem?_cons_zero, Option.getD_some]
  refine Reg.ord_val rfl (by simp [Region.wanted, yielded]) hB (.bool false) (fun w' _ => by go_simp) ?_
  simp only [Act.put, Act.eval, List.setIfInBounds_toArray, List.set_cons_succ, List.set_cons_zero, Array.getD_eq_getD_getElem?, List.getElem?_toArray, List.getElem?_cons_succ, List.getElem?_cons_zero, Option.getD_some]
  refine Reg.ord_pick rfl _ _ _ rfl (by simp [Region.wanted, yielded]) hB false rfl ?_
  simp only [Bool.false_eq_true, if_false]
  simp only [Act.put, Act.eval, List.setIfInBounds_toArray, List.set_cons_succ, List.set_cons_zero, Array.getD_eq_getD_getElem?, List.getElem?_toArray, List.getElem?_cons_succ, List.getElem?_cons_zero, Option.getD_some]
  refine Reg.ord_move rfl _ rfl (by simp [Region.wanted, yielded]) hB ?_
  simp only [Act.put, Act.eval, List.setIfInBounds_toArray, List.set_cons_succ, List.set_cons_zero, Array.getD_eq_getD_getElem?, List.getElem?_toArray, List.getElem?_cons_succ, List.getElem?_cons_zero, Option.getD_some]
  refine Reg.ord_move rfl _ rfl (by simp [Region.wanted, yielded]) hB ?_
  simp only [Act.put, Act.eval, List.setIfInBounds_toArray, List.set_cons_succ, List.set_cons_zero, Array.getD_eq_getD_getElem?, List.getElem?_toArray, List.getElem?_cons_succ, List.getElem?_cons_zero, Option.getD_some]
  refine Reg.ord_move rfl _ rfl (by simp [Region.wanted, yielded]) hB ?_
  simp only [Act.put, Act.eval, List.setIfInBounds_toArray, List.set_cons_succ, List.set_cons_zero, Array.getD_eq_getD_getElem?, List.getElem?_toArray, List.getElem?_cons_succ, List.getElem?_cons_zero, Option.getD_some]
  refine Reg.ord_call rfl (by simp [Region.wanted, yielded]) 11 _ (by go_simp) (build_any v12 L _ (hownD.step hB)) (fun W1 hb1 => ⟨hB.trans (hb1.mono hB.size), ?_⟩)
  simp only [Act.put, Act.eval, List.setIfInBounds_toArray, List.set_cons_succ, List.set_cons_zero, Array.getD_eq_getD_getElem?, List.getElem?_toArray, List.getElem?_cons_succ, List.getElem?_cons_zero, Option.getD_some]
  replace hB := hB.trans (hb1.mono hB.size)
  clear hb1
  refine Reg.ord_call rfl (by simp [Region.wanted, yielded]) 12 _ (by go_simp) (rbuild_any (.slice aL L.length cL) L _ (hsD.step hB)) (fun W1 hb1 => ⟨hB.trans (hb1.mono hB.size), ?_⟩)
  simp only [Act.put, Act.eval, List.setIfInBounds_toArray, List.set_cons_succ, List.set_cons_zero, Array.getD_eq_getD_getElem?, List.getElem?_toArray, List.getElem?_cons_succ, List.getElem?_cons_zero, Option.getD_some]
  replace hB := hB.trans (hb1.mono hB.size)
  clear hb1
  refine ord_neqF rfl (by simp [Region.wanted, yielded]) hB _ _ rfl _ _ (by simp [Act.eval] <;> rfl) (by simp [Act.eval] <;> rfl) (secEq_same rfl) ?_
  simp only [Act.put, Act.eval, List.setIfInBounds_toArray, List.set_cons_succ, List.set_cons_zero, Array.getD_eq_getD_getElem?, List.getElem?_toArray, List.getElem?_cons_succ, List.getElem?_cons_zero, Option.getD_some]
  refine Reg.ord_pick rfl _ _ _ rfl (by simp [Region.wanted, yielded]) hB false rfl ?_
  simp only [Bool.false_eq_true, if_false]
  simp only [Act.put, Act.eval, List.setIfInBounds_toArray, List.set_cons_succ, List.set_cons_zero, Array.getD_eq_getD_getElem?, List.getElem?_toArray, List.getElem?_cons_succ, List.getElem?_cons_zero, Option.getD_some]
  refine Reg.ord_move rfl _ rfl (by simp [Region.wanted, yielded]) hB ?_
  simp only [Act.put, Act.eval, List.setIfInBounds_toArray, List.set_cons_succ, List.set_cons_zero, Array.getD_eq_getD_getElem?, List.getElem?_toArray, List.getElem?_cons_succ, List.getElem?_cons_zero, Option.getD_some]
  refine Reg.ord_val rfl (by simp [Region.wanted, yielded]) hB _ (fun w' hS => (hstD.step hS).load mem4 _ rfl (by simp [Act.eval])) ?_
  simp only [Act.put, Act.eval, List.setIfInBounds_toArray, List.set_cons_succ, List.set_cons_zero, Array.getD_eq_getD_getElem?, List.getElem?_toArray, List.getElem?_cons_succ, List.getElem?_cons_zero, Option.getD_some]
  refine Reg.ord_val rfl (by simp [Region.wanted, yielded]) hB _ (fun w' hS => (hstD.step hS).load mem3 _ rfl (by simp [Act.eval])) ?_
  simp only [Act.put, Act.eval, List.setIfInBounds_toArray, List.set_cons_succ, List.set_cons_zero, Array.getD_eq_getD_getElem?, List.getElem?_toArray, List.getElem?_cons_succ, List.getElem?_cons_zero, Option.getD_some]
  refine Reg.ord_val rfl (by simp [Region.wanted, yielded]) hB _ (fun w' hS => (hstD.step hS).load mem4 _ rfl (by simp [Act.eval])) ?_
  simp only [Act.put, Act.eval, List.setIfInBounds_toArray, List.set_cons_succ, List.set_cons_zero, Array.getD_eq_getD_getElem?, List.getElem?_toArray, List.getElem?_cons_succ, List.getElem?_cons_zero, Option.getD_some]
  refine Reg.ord_val rfl (by simp [Region.wanted, yielded]) hB _ (fun w' hS => (hstD.step hS).load mem3 _ rfl (by simp [Act.eval])) ?_
  simp only [Act.put, Act.eval, List.setIfInBounds_toArray, List.set_cons_succ, List.set_cons_zero, Array.getD_eq_getD_getElem?, List.getElem?_toArray, List.getElem?_cons_succ, List.getElem?_cons_zero, Option.getD_some]
  refine Reg.ord_call rfl (by simp [Region.wanted, yielded]) 13 _ (by go_simp) (xor_any a b _) (fun W1 hb1 => ⟨hB.trans (hb1.mono hB.size), ?_⟩)
  simp only [Act.put, Act.eval, List.setIfInBounds_toArray, List.set_cons_succ, List.set_cons_zero, Array.getD_eq_getD_getElem?, List.getElem?_toArray, List.getElem?_cons_succ, List.getElem?_cons_zero, Option.getD_some]
  replace hB := hB.trans (hb1.mono hB.size)
  clear hb1
  refine Reg.ord_call rfl (by simp [Region.wanted, yielded]) 14 _ (by go_simp) (rxor_any a b _) (fun W1 hb1 => ⟨hB.trans (hb1.mono hB.size), ?_⟩)
  simp only [Act.put, Act.eval, List.setIfInBounds_toArray, List.set_cons_succ, List.set_cons_zero, Array.getD_eq_getD_getElem?, List.getElem?_toArray, List.getElem?_cons_succ, List.getElem?_cons_zero, Option.getD_some]
  replace hB := hB.trans (hb1.mono hB.size)
  clear hb1
  refine ord_neqF rfl (by simp [Region.wanted, yielded]) hB _ _ rfl _ _ (by simp [Act.eval] <;> rfl) (by simp [Act.eval] <;> rfl) (secEq_same rfl) ?_
  simp only [Act.put, Act.eval, List.setIfInBounds_toArray, List.set_cons_succ, List.set_cons_zero, Array.getD_eq_getD_getElem?, List.getElem?_toArray, List.getElem?_cons_succ, List.getElem?_cons_zero, Option.getD_some]
  refine Reg.ord_pick rfl _ _ _ rfl (by simp [Region.wanted, yielded]) hB false rfl ?_
  simp only [Bool.false_eq_true, if_false]
  simp only [Act.put, Act.eval, List.setIfInBounds_toArray, List.set_cons_succ, List.set_cons_zero, Array.getD_eq_getD_getElem?, List.getElem?_toArray, List.getElem?_cons_succ, List.getElem?_cons_zero, Option.getD_some]
  refine Reg.ord_move rfl _ rfl (by simp [Region.wanted, yielded]) hB ?_
  simp only [Act.put, Act.eval, List.setIfInBounds_toArray, List.set_cons_succ, List.set_cons_zero, Array.getD_eq_getD_getElem?, List.getElem?_toArray, List.getElem?_cons_succ, List.getElem?_cons_zero, Option.getD_some]
  refine Reg.ord_val rfl (by simp [Region.wanted, yielded]) hB _ (fun w' hS => (hstD.step hS).load mem4 _ rfl (by simp [Act.eval])) ?_
  simp only [Act.put, Act.eval, List.setIfInBounds_toArray, List.set_cons_succ, List.set_cons_zero, Array.getD_eq_getD_getElem?, List.getElem?_toArray, List.getElem?_cons_succ, List.getElem?_cons_zero, Option.getD_some]
  refine Reg.ord_val rfl (by simp [Region.wanted, yielded]) hB _ (fun w' hS => (hstD.step hS).load mem3 _ rfl (by simp [Act.eval])) ?_
  simp only [Act.put, Act.eval, List.setIfInBounds_toArray, List.set_cons_succ, List.set_cons_zero, Array.getD_eq_getD_getElem?, List.getElem?_toArray, List.getElem?_cons_succ, List.getElem?_cons_zero, Option.getD_some]
  refine Reg.ord_val rfl (by simp [Region.wanted, yielded]) hB _ (fun w' hS => (hstD.step hS).load mem2 _ rfl (by simp [Act.eval])) ?_
  simp only [Act.put, Act.eval, List.setIfInBounds_toArray, List.set_cons_succ, List.set_cons_zero, Array.getD_eq_getD_getElem?, List.getElem?_toArray, List.getElem?_cons_succ, List.getElem?_cons_zero, Option.getD_some]
  refine Reg.ord_val rfl (by simp [Region.wanted, yielded]) hB _ (fun w' hS => (hstD.step hS).load mem4 _ rfl (by simp [Act.eval])) ?_
  simp only [Act.put, Act.eval, List.setIfInBounds_toArray, List.set_cons_succ, List.set_cons_zero, Array.getD_eq_getD_getElem?, List.getElem?_toArray, List.getElem?_cons_succ, List.getElem?_cons_zero, Option.getD_some]
  refine Reg.ord_val rfl (by simp [Region.wanted, yielded]) hB _ (fun w' hS => (hstD.step hS).load mem3 _ rfl (by simp [Act.eval])) ?_
  simp only [Act.put, Act.eval, List.setIfInBounds_toArray, List.set_cons_succ, List.set_cons_zero, Array.getD_eq_getD_getElem?, List.getElem?_toArray, List.getElem?_cons_succ, List.getElem?_cons_zero, Option.getD_some]
  refine Reg.ord_val rfl (by simp [Region.wanted, yielded]) hB _ (fun w' hS => (hstD.step hS).load mem2 _ rfl (by simp [Act.eval])) ?_
  simp only [Act.put, Act.eval, List.setIfInBounds_toArray, List.set_cons_succ, List.set_cons_zero, Array.getD_eq_getD_getElem?, List.getElem?_toArray, List.getElem?_cons_succ, List.getElem?_cons_zero, Option.getD_some]
  refine Reg.ord_call rfl (by simp [Region.wanted, yielded]) 15 _ (by go_simp) (plug_any a b c _) (fun W1 hb1 => ⟨hB.trans (hb1.mono hB.size), ?_⟩)
  simp only [Act.put, Act.eval, List.setIfInBounds_toArray, List.set_cons_succ, List.set_cons_zero, Array.getD_eq_getD_getElem?, List.getElem?_toArray, List.getElem?_cons_succ, List.getElem?_cons_zero, Option.getD_some]
  replace hB := hB.trans (hb1.mono hB.size)
  clear hb1
  refine Reg.ord_call rfl (by simp [Region.wanted, yielded]) 16 _ (by go_simp) (rplug_any a b c _) (fun W1 hb1 => ⟨hB.trans (hb1.mono hB.size), ?_⟩)
  simp only [Act.put, Act.eval, List.setIfInBounds_toArray, List.set_cons_succ, List.set_cons_zero, Array.getD_eq_getD_getElem?, List.getElem?_toArray, List.getElem?_cons_succ, List.getElem?_cons_zero, Option.getD_some]
  replace hB := hB.trans (hb1.mono hB.size)
  clear hb1
  refine ord_neqF rfl (by simp [Region.wanted, yielded]) hB _ _ rfl _ _ (by simp [Act.eval] <;> rfl) (by simp [Act.eval] <;> rfl) (secEq_same rfl) ?_
  simp only [Act.put, Act.eval, List.setIfInBounds_toArray, List.set_cons_succ, List.set_cons_zero, Array.getD_eq_getD_getElem?, List.getElem?_toArray, List.getElem?_cons_succ, List.getElem?_cons_zero, Option.getD_some]
  refine Reg.ord_pick rfl _ _ _ rfl (by simp [Region.wanted, yielded]) hB false rfl ?_
  simp only [Bool.false_eq_true, if_false]
  simp only [Act.put, Act.eval, List.setIfInBounds_toArray, List.set_cons_succ, List.set_cons_zero, Array.getD_eq_getD_getElem?, List.getElem?_toArray, List.getElem?_cons_succ, List.getElem?_cons_zero, Option.getD_some]
  refine Reg.ord_move rfl _ rfl (by simp [Region.wanted, yielded]) hB ?_
  simp only [Act.put, Act.eval, List.setIfInBounds_toArray, List.set_cons_succ, List.set_cons_zero, Array.getD_eq_getD_getElem?, List.getElem?_toArray, List.getElem?_cons_succ, List.getElem?_cons_zero, Option.getD_some]
  refine Reg.ord_move rfl _ rfl (by simp [Region.wanted, yielded]) hB ?_
  simp only [Act.put, Act.eval, List.setIfInBounds_toArray, List.set_cons_succ, List.set_cons_zero, Array.getD_eq_getD_getElem?, List.getElem?_toArray, List.getElem?_cons_succ, List.getElem?_cons_zero, Option.getD_some]
  refine Reg.ord_move rfl _ rfl (by simp [Region.wanted, yielded]) hB ?_
  simp only [Act.put, Act.eval, List.setIfInBounds_toArray, List.set_cons_succ, List.set_cons_zero, Array.getD_eq_getD_getElem?, List.getElem?_toArray, List.getElem?_cons_succ, List.getElem?_cons_zero, Option.getD_some]
  refine Reg.ord_val rfl (by simp [Region.wanted, yielded]) hB (secV zeroS) (fun w' _ => run_zero w' _ rfl) ?_
  simp only [Act.put, Act.eval, List.setIfInBounds_toArray, List.set_cons_succ, List.set_cons_zero, Array.getD_eq_getD_getElem?, List.getElem?_toArray, List.getElem?_cons_succ, List.getElem?_cons_zero, Option.getD_some]
  refine Reg.ord_call rfl (by simp [Region.wanted, yielded]) 17 _ (by go_simp) (check_any' v12 L _ (hownD.step hB)) (fun W1 hb1 => ⟨hB.trans (hb1.mono hB.size), ?_⟩)
  simp only [Act.put, Act.eval, List.setIfInBounds_toArray, List.set_cons_succ, List.set_cons_zero, Array.getD_eq_getD_getElem?, List.getElem?_toArray, List.getElem?_cons_succ, List.getElem?_cons_zero, Option.getD_some]
  replace hB := hB.trans (hb1.mono hB.size)
  clear hb1
  refine Reg.ord_call rfl (by simp [Region.wanted, yielded]) 12 _ (by go_simp) (rbuild_any (.slice aL L.length cL) L _ (hsD.step hB)) (fun W1 hb1 => ⟨hB.trans (hb1.mono hB.size), ?_⟩)
  simp only [Act.put, Act.eval, List.setIfInBounds_toArray, List.set_cons_succ, List.set_cons_zero, Array.getD_eq_getD_getElem?, List.getElem?_toArray, List.getElem?_cons_succ, List.getElem?_cons_zero, Option.getD_some]
  replace hB := hB.trans (hb1.mono hB.size)
  clear hb1
  refine Reg.ord_val rfl (by simp [Region.wanted, yielded]) hB (.bool (secEq (par L) zeroS)) (fun w' _ => run_eq_val w' _ _ _ rfl _ _ (by simp [Act.eval] <;> rfl) (by simp [Act.eval] <;> rfl)) ?_
  simp only [Act.put, Act.eval, List.setIfInBounds_toArray, List.set_cons_succ, List.set_cons_zero, Array.getD_eq_getD_getElem?, List.getElem?_toArray, List.getElem?_cons_succ, List.getElem?_cons_zero, Option.getD_some]
  refine Reg.ord_val rfl (by simp [Region.wanted, yielded]) hB (.bool false) (fun w' _ => run_bne w' _ _ _ rfl _ (by simp [Act.eval] <;> rfl) (by simp [Act.eval] <;> rfl)) ?_
  simp only [Act.put, Act.eval, List.setIfInBounds_toArray, List.set_cons_succ, List.set_cons_zero, Array.getD_eq_getD_getElem?, List.getElem?_toArray, List.getElem?_cons_succ, List.getElem?_cons_zero, Option.getD_some]
  refine Reg.ord_pick rfl _ _ _ rfl (by simp [Region.wanted, yielded]) hB false rfl ?_
  simp only [Bool.false_eq_true, if_false]
  simp only [Act.put, Act.eval, List.setIfInBounds_toArray, List.set_cons_succ, List.set_cons_zero, Array.getD_eq_getD_getElem?, List.getElem?_toArray, List.getElem?_cons_succ, List.getElem?_cons_zero, Option.getD_some]

  refine Reg.ord_nil ?_
  go_wp2_with fail
  go_loopw [17] (fun k wr => ∃ j : Nat, j ≤ L.length ∧ k = .int .i64 j ∧ Below W11.heap.size W11 wr) (fun k _ => L.length - (intOf k).toNat)
  case atStart => exact ⟨0, by omega, rfl, hB⟩
  case round =>
    obtain ⟨j, hj, rfl, hBr⟩ := hrel
    clear hB
    by_cases hlt : j < L.length
    · obtain ⟨bL, oL, rfl, hsec⟩ := hsD.at (by omega)
      rcases hownO.cases with ⟨_, _, _, _, h0⟩ | ⟨g, cap, rfl, hg, hrow, hpos⟩
      · rw [h0] at hlt; exact absurd hlt (by simp)
      · have hsecr := (hsec.step hBr).step Below.draws
        have hrowr := (hrow.step hBr).step Below.draws
        have hBd := hBr.trans (Below.draws.mono hBr.size)
        clear hsec hrow hBr
        go_wp2_with fail
        refine Reg.region_ord (S := fun w' => w' = wr.drew) [(0, 1), (1, 1), (2, 1), (3, 1), (4, 1), (5, 1), (6, 1), (7, 1), (8, 1)] (by kernel_rfl) (by kernel_rfl) (by decide) (by kernel_rfl) (fun _ _ _ _ _ h => h) ?_
        generalize wr.drew = W12 at *
        refine Reg.ord_move rfl _ rfl (by simp [Region.wanted, yielded]) rfl ?_
        simp only [Act.put, Act.eval, List.setIfInBounds_toArray, List.set_cons_succ, List.set_cons_zero, Array.getD_eq_getD_getElem?, List.getElem?_toArray, List.getElem?_cons_succ, List.getElem?_cons_zero, Option.getD_some]
        refine Reg.ord_move rfl _ rfl (by simp [Region.wanted, yielded]) rfl ?_
        simp only [Act.put, Act.eval, List.setIfInBounds_toArray, List.set_cons_succ, List.set_cons_zero, Array.getD_eq_getD_getElem?, List.getElem?_toArray, List.getElem?_cons_succ, List.getElem?_cons_zero, Option.getD_some]
        refine Reg.ord_val rfl (by simp [Region.wanted, yielded]) rfl (.pointer (some ⟨g, j * 64, none⟩)) (fun w' _ => by go_simp) ?_
        simp only [Act.put, Act.eval, List.setIfInBounds_toArray, List.set_cons_succ, List.set_cons_zero, Array.getD_eq_getD_getElem?, List.getElem?_toArray, List.getElem?_cons_succ, List.getElem?_cons_zero, Option.getD_some]
        refine Reg.ord_val rfl (by simp [Region.wanted, yielded]) rfl _ (fun w' hS => by rw [hS]; exact hrowr.load j hlt _ rfl (by simp [Act.eval])) ?_
        simp only [Act.put, Act.eval, List.setIfInBounds_toArray, List.set_cons_succ, List.set_cons_zero, Array.getD_eq_getD_getElem?, List.getElem?_toArray, List.getElem?_cons_succ, List.getElem?_cons_zero, Option.getD_some]
        refine Reg.ord_move rfl _ rfl (by simp [Region.wanted, yielded]) rfl ?_
        simp only [Act.put, Act.eval, List.setIfInBounds_toArray, List.set_cons_succ, List.set_cons_zero, Array.getD_eq_getD_getElem?, List.getElem?_toArray, List.getElem?_cons_succ, List.getElem?_cons_zero, Option.getD_some]
        refine Reg.ord_move rfl _ rfl (by simp [Region.wanted, yielded]) rfl ?_
        simp only [Act.put, Act.eval, List.setIfInBounds_toArray, List.set_cons_succ, List.set_cons_zero, Array.getD_eq_getD_getElem?, List.getElem?_toArray, List.getElem?_cons_succ, List.getElem?_cons_zero, Option.getD_some]
        refine Reg.ord_val rfl (by simp [Region.wanted, yielded]) rfl (.pointer (some ⟨bL, oL + j * 64, none⟩)) (fun w' _ => by go_simp) ?_
        simp only [Act.put, Act.eval, List.setIfInBounds_toArray, List.set_cons_succ, List.set_cons_zero, Array.getD_eq_getD_getElem?, List.getElem?_toArray, List.getElem?_cons_succ, List.getElem?_cons_zero, Option.getD_some]
        refine Reg.ord_val rfl (by simp [Region.wanted, yielded]) rfl _ (fun w' hS => by rw [hS]; exact hsecr.load j hlt _ rfl (by simp [Act.eval])) ?_
        simp only [Act.put, Act.eval, List.setIfInBounds_toArray, List.set_cons_succ, List.set_cons_zero, Array.getD_eq_getD_getElem?, List.getElem?_toArray, List.getElem?_cons_succ, List.getElem?_cons_zero, Option.getD_some]
        refine ord_neqF rfl (by simp [Region.wanted, yielded]) rfl _ _ rfl _ _ (by simp [Act.eval] <;> rfl) (by simp [Act.eval] <;> rfl) (secEq_same rfl) ?_
        simp only [Act.put, Act.eval, List.setIfInBounds_toArray, List.set_cons_succ, List.set_cons_zero, Array.getD_eq_getD_getElem?, List.getElem?_toArray, List.getElem?_cons_succ, List.getElem?_cons_zero, Option.getD_some]
        refine Reg.ord_nil ?_
        clear hsecr hrowr
        go_wp2
        go_roundw
        case rel => exact ⟨j + 1, by omega, by go_num, hBd⟩
        case measure => simp [intOf]; omega
    · obtain rfl : j = L.length := by omega
      go_wp2
      go_ret
      exact ⟨rfl, hstD.below.trans (hBr.mono hstD.below.size)⟩
/-! ### The row's step -/
set_option maxRecDepth 100000 in
theorem lifted (os : Os) (started : os.Started) (H : Type) (enc : TypeId × Value → H) :
    ReturnsInHanded {} Try.checked os 3 .any (Rows.parityBuildsSpec.pre6 enc Try.prog Try.f3 Rows.parityBuildsRow.domain false) (Rows.parityBuildsSpec.post enc Try.prog Try.f3 false true false false) := by
  refine returnsInHanded_of_change (C := Try.checked) own started (by kernel_rfl) Try.func3
    (ChangeSpec.witness6 (enc := enc) (C := Try.checked) false ⟨#[], #[.slice none 0 0, .int .i64 0, secV zeroS, secV zeroS, secV zeroS], []⟩ 8 (by kernel_rfl) (by kernel_rfl) (by kernel_rfl) (by kernel_rfl)) ?_
  intro W base args ds gs before hval0 hW hcnd _
  have hval : ∀ (j : Nat) t v, Try.f3.params[j]? = some t → args[j]? = some v → Value.okWide Try.prog W .any base t v := hval0
  have hW' := hW
  obtain ⟨p, q, hA0, hV, rfl, hfz, hnd⟩ := hW
  have hA : DataW.TrodAll enc Try.prog W 0 (fun _ => true) true Try.f3.params.toList args.toList ds p := hA0
  rw [Try.params3] at hA hval
  obtain ⟨v0, vs0, d0, ds0, p0, q0, hargs, rfl, rfl, h0, r0⟩ := trodAll_cons hA
  obtain ⟨v1, vs1, d1, ds1, p1, q1, rfl, rfl, rfl, h1, r1⟩ := trodAll_cons r0
  obtain ⟨v2, vs2, d2, ds2, p2, q2, rfl, rfl, rfl, h2, r2⟩ := trodAll_cons r1
  obtain ⟨v3, vs3, d3, ds3, p3, q3, rfl, rfl, rfl, h3, r3⟩ := trodAll_cons r2
  obtain ⟨v4, vs4, d4, ds4, p4, q4, rfl, rfl, rfl, h4, r4⟩ := trodAll_cons r3
  obtain ⟨rfl, rfl, rfl⟩ := trodAll_nil r4
  obtain rfl : args = #[v0, v1, v2, v3, v4] := by cases args; simp_all
  obtain ⟨rfl, rfl⟩ := trodVars_none hV
  have k0 := h0
  have lt0 : ∀ x ∈ p0, x.block < W.heap.size := by obtain ⟨m, hm⟩ := k0; exact DataW.trod_lt m _ _ _ hm
  obtain ⟨x0, hs0⟩ := open_secs (hval 0 22 v0 rfl rfl) k0
  have k1 := h1
  clear h1
  obtain ⟨x1, rfl, rfl, rfl, w1⟩ := open_int Try.underlying3 (hval 1 3 v1 rfl rfl) k1
  have k2 := h2
  have lt2 : ∀ x ∈ p2, x.block < W.heap.size := by obtain ⟨m, hm⟩ := k2; exact DataW.trod_lt m _ _ _ hm
  obtain ⟨x2, rfl⟩ := open_sec (hval 2 24 v2 rfl rfl) k2
  have k3 := h3
  have lt3 : ∀ x ∈ p3, x.block < W.heap.size := by obtain ⟨m, hm⟩ := k3; exact DataW.trod_lt m _ _ _ hm
  obtain ⟨x3, rfl⟩ := open_sec (hval 3 24 v3 rfl rfl) k3
  have k4 := h4
  have lt4 : ∀ x ∈ p4, x.block < W.heap.size := by obtain ⟨m, hm⟩ := k4; exact DataW.trod_lt m _ _ _ hm
  obtain ⟨x4, rfl⟩ := open_sec (hval 4 24 v4 rfl rfl) k4
  clear hA0 hval0
  refine (walk v0 x0 x1 x2 x3 x4 W hs0 w1).mono fun e W' ⟨he, bel⟩ => ?_
  subst he
  exact ⟨_, rfl, _, _, _, [], _, [], hW', trodAll_mk1 (shut_bool Try.underlying4 _), (trodAll_cons_mk (Below.trod laidOut (by kernel_rfl) (of_decide_eq_true (by kernel_rfl)) k0 bel lt0) (trodAll_cons_mk (shut_int Try.underlying3 w1) (trodAll_cons_mk (Below.trod laidOut (by kernel_rfl) (of_decide_eq_true (by kernel_rfl)) k2 bel lt2) (trodAll_cons_mk (Below.trod laidOut (by kernel_rfl) (of_decide_eq_true (by kernel_rfl)) k3 bel lt3) (trodAll_cons_mk (Below.trod laidOut (by kernel_rfl) (of_decide_eq_true (by kernel_rfl)) k4 bel lt4) trodAll_mk0))))), rfl, bel.frame _, fun h => by cases h⟩

theorem over : Rows.parityBuildsRow.holds Try.pinned (OpenSpec.ofChange Rows.parityBuildsSpec) :=
  OpenClaim.holds_of_wide 3 Try.f3 rfl rfl rfl rfl rfl rfl rfl ⟨rfl, rfl, rfl, rfl, rfl⟩ rfl rfl rfl rfl rfl (by kernel_rfl) Try.func3 (by kernel_rfl)
    (of_decide_eq_true (by kernel_rfl)) (by unfold Func.isWrapper; first | (rw [if_pos (by decide +kernel)]; kernel_rfl) | (rw [if_neg (by decide +kernel)]; exact ⟨rfl, rfl⟩))
    (fun os started H enc _ => lifted os started H enc)

/-- The statement. -/
theorem proved : Rows.ParityBuildsSaid := over
#print axioms proved
end Go.Proofs.Ytpmhhfphbackdaa.builds
