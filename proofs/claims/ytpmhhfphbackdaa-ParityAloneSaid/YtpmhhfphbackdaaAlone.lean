/- ParityAlone: with one there is no other. The statement holds as it stands: no condition. -/
import Derived.Test.YtpmhhfphbackdaaOpen
namespace Go.Proofs.Ytpmhhfphbackdaa.alone
open Go.RowKit Go.ChangeShapes Go.WideShapes Go.ChangeAt
set_option linter.unusedSimpArgs false

theorem run_zero (w : World) {ρ : Operand → Value} (o : Oper) (ho : o.op = .build 24 #[]) : (execOp ρ o).run Try.prog w = .ok (.value (secV zeroS)) w := by
  unfold execOp
  simp only [ho, List.map_toArray, List.map_nil, Sem.run_bind, run_build24, Result.andThen_ok, Sem.run_pure]
theorem ord_eqlT {l : List Oper} {i : Nat} {o : Oper} {r : List (Nat × Nat)} {S : World → Prop} {Q : Exit → Act → World → Prop} {a : Act} {w : World} (ho : Reg.nth l i = some o) (hw : Region.wanted o (yielded l.toArray a.tmps) = true) (hS : S w)
    (x y : Operand) (hop : o.op = .binOp .eql 24 x y 24) (s t : Sec) (hx : a.eval x = secV s) (hy : a.eval y = secV t) (h : secEq s t = true)
    (hK : Reg.wpOrd Try.prog l.toArray S Q r (a.put o.dst (.bool true)) w) : Reg.wpOrd Try.prog l.toArray S Q ((i, 1) :: r) a w :=
  Reg.ord_val ho hw hS (.bool true) (fun w' _ => by
    unfold execOp
    simp only [hop, hx, hy, Sem.run_bind, run_guard_sec, run_eql_sec, Result.andThen_ok, Sem.run_pure, h]) hK

theorem par_one (a : Sec) : par [a] = a := by funext j; simp [par, parFrom, sxor, zeroS]
theorem reb_two (a b : Sec) : rebS [a, b] 0 = b := by
  have h : par [] = zeroS := rfl
  simp [rebS, par_one, h, zero_sxor]
theorem rebE_two (a b : Sec) : rebE [a, b] 0 = 0 := by simp [rebE]
theorem reb_one (a : Sec) : rebS [a] 0 = zeroS := by
  have h : par [] = zeroS := rfl
  simp [rebS, h, zero_sxor]
theorem rebE_one (a : Sec) : rebE [a] 0 = 0 := by simp [rebE]
theorem eqA (a : Sec) : secEq (par [a]) a = true := secEq_same (par_one a)
theorem eqB (a b : Sec) : secEq (sxor (sxor a b) b) a = true := secEq_same (by rw [sxor_assoc, sxor_self, sxor_zero])
theorem eqC (a b : Sec) : secEq (sxor b a) (sxor a b) = true := secEq_same (sxor_comm b a)
theorem eqD (a : Sec) : secEq (sxor a a) zeroS = true := secEq_same (sxor_self a)
theorem eqE (a b : Sec) : secEq (sxor (sxor a a) b) b = true := secEq_same (by rw [sxor_self, zero_sxor])

set_option maxRecDepth 100000 in
set_option maxHeartbeats 4000000 in
theorem walk (a b : Sec) (w : World) :
    Calls Try.prog 7 #[secV a, secV b] w fun e w' => e = .returned (.bool true) ∧ Below w.heap.size w w' := by
  have hst := St.start w
  go_enter Try.func7, Try.ntmps7
  go_wp2_with (first
    | (with_reducible refine wl_box rfl _ rfl a rfl hst ?_; intro b2 W2 hb2 hc2 hbl2 hst2; clear hst; go_frame)
    | (with_reducible refine wl_box rfl _ rfl b rfl hst2 ?_; intro b3 W3 hb3 hc3 hbl3 hst3; clear hst2; go_frame))
  refine (shown_any _).mono ?_
  rintro e W4 ⟨rfl, hbl4⟩
  have hst4 := hst3.step hbl4
  clear hst3
  go_wp2_with (first
    | (with_reducible refine wl_load rfl _ rfl hst4 _ _ rfl (by first | exact mem0 | exact mem1) ?_; go_frame)
    | (with_reducible refine wl_slice2 rfl _ _ rfl _ _ rfl rfl hst4 ?_; intro b5 W5 hb5 hc5 hbl5 hst5 hs5; clear hst4; go_frame))
  refine (rebuild_any _ [a, b] 0 _ hs5).mono ?_
  rintro e W6 ⟨rfl, hbl6⟩
  have hst6 := hst5.step hbl6
  clear hst5
  rw [reb_two, rebE_two]
  go_wp2_with (first
    | (refine wl_new rfl rfl 6 rfl rfl _ rfl hst6 b (by simp [Act.put]) (fun v => by simp [Act.eval, Act.put]) ?_; intro b7 W7 hb7 hc7 hbl7 hst7; clear hst6; go_frame)
    | (with_reducible refine wl_load rfl _ rfl hst7 _ _ rfl (by first | exact mem0 | exact mem1 | exact mem2) ?_; go_frame)
    | (with_reducible refine wl_slice1 rfl _ rfl _ rfl hst7 ?_; intro b8 W8 hb8 hc8 hbl8 hst8 hs8; clear hst7; go_frame))
  refine (rebuild_any _ [a] 0 _ hs8).mono ?_
  rintro e W9 ⟨rfl, hbl9⟩
  have hst9 := hst8.step hbl9
  clear hst8
  rw [reb_one, rebE_one]
  go_wp2_with (first
    | (refine wl_new rfl rfl 8 rfl rfl _ rfl hst9 zeroS (by simp [Act.put]) (fun v => by simp [Act.eval, Act.put]) ?_; intro b10 W10 hb10 hc10 hbl10 hst10; clear hst9; go_frame)
    | (with_reducible refine wl_load rfl _ rfl hst10 _ _ rfl (by first | exact mem0 | exact mem1 | exact mem2 | exact mem3) ?_; go_frame))
  refine (xor_any a b _).mono ?_
  rintro e W11 ⟨rfl, hbl11⟩
  have hst11 := hst10.step hbl11
  clear hst10
  go_wp2_with (first
    | (refine wl_new rfl rfl 10 rfl rfl _ rfl hst11 (sxor a b) (by simp [Act.put]) (fun v => by simp [Act.eval, Act.put]) ?_; intro b12 W12 hb12 hc12 hbl12 hst12; clear hst11; go_frame))
  clear hb2 hc2 hbl2 hb3 hc3 hbl3 hbl4 hb5 hc5 hbl5 hs5 hbl6 hb7 hc7 hbl7 hb8 hc8 hbl8 hs8 hbl9 hb10 hc10 hbl10 hbl11 hb12 hc12 hbl12
  have hst := hst12.step Below.draws
  clear hst12
  refine Reg.region_ord (S := fun w' => St w w' [(b12, sxor a b), (b10, zeroS), (b7, b), (b3, b), (b2, a)]) [(0, 1), (1, 1), (2, 1), (5, 1), (3, 0), (4, 0), (6, 1), (7, 1), (8, 1), (9, 1), (10, 1), (11, 1), (12, 1), (13, 1), (14, 1), (15, 1), (16, 1), (17, 1), (18, 1), (19, 1), (20, 1), (21, 1), (22, 1), (23, 1), (24, 1), (25, 1), (26, 1), (27, 1), (28, 1), (30, 1), (29, 0), (31, 1), (32, 1), (33, 1), (34, 1), (35, 1), (37, 1), (36, 0), (38, 1), (39, 1), (40, 1), (41, 1), (42, 1), (44, 1), (43, 0), (45, 1), (46, 1), (47, 1), (48, 1), (49, 1), (50, 1), (52, 1), (51, 0), (53, 1), (54, 1), (55, 1)] (by kernel_rfl) (by kernel_rfl) (by decide) (by kernel_rfl) (fun _ _ _ _ _ h => h) ?_
  generalize W12.drew = W13 at *
  refine Reg.ord_move rfl _ rfl (by simp [Region.wanted, yielded]) hst ?_
  simp only [Act.put, Act.eval, List.setIfInBounds_toArray, List.set_cons_succ, List.set_cons_zero, Array.getD_eq_getD_getElem?, List.getElem?_toArray, List.getElem?_cons_succ, List.getElem?_cons_zero, Option.getD_some]
  refine Reg.ord_move rfl _ rfl (by simp [Region.wanted, yielded]) hst ?_
  simp only [Act.put, Act.eval, List.setIfInBounds_toArray, List.set_cons_succ, List.set_cons_zero, Array.getD_eq_getD_getElem?, List.getElem?_toArray, List.getElem?_cons_succ, List.getElem?_cons_zero, Option.getD_some]
  refine Reg.ord_val rfl (by simp [Region.wanted, yielded]) hst _ (fun w' hS => hS.load mem4 _ rfl (by simp [Act.eval])) ?_
  simp only [Act.put, Act.eval, List.setIfInBounds_toArray, List.set_cons_succ, List.set_cons_zero, Array.getD_eq_getD_getElem?, List.getElem?_toArray, List.getElem?_cons_succ, List.getElem?_cons_zero, Option.getD_some]
  refine Reg.ord_val rfl (by simp [Region.wanted, yielded]) hst _ (fun w' hS => hS.load mem4 _ rfl (by simp [Act.eval])) ?_
  simp only [Act.put, Act.eval, List.setIfInBounds_toArray, List.set_cons_succ, List.set_cons_zero, Array.getD_eq_getD_getElem?, List.getElem?_toArray, List.getElem?_cons_succ, List.getElem?_cons_zero, Option.getD_some]
  refine Reg.ord_step rfl ?_
  refine wl_slice1 (by simp [Region.wanted, yielded]) _ rfl _ (by simp [Act.eval] <;> rfl) hst ?_
  intro bs Ws hbs hcs hbls hst' hs'
  refine wpList_nil ⟨hst', ?_⟩
  simp only [Act.put, Act.eval, List.setIfInBounds_toArray, List.set_cons_succ, List.set_cons_zero, Array.getD_eq_getD_getElem?, List.getElem?_toArray, List.getElem?_cons_succ, List.getElem?_cons_zero, Option.getD_some]
  clear hst hbs hcs hbls
  have hst := hst'
  clear hst'
  refine Reg.ord_call rfl (by simp [Region.wanted, yielded]) 11 _ (by go_simp) (build_any _ [a] _ hs') (fun W1 hb1 => ⟨hst.step hb1, ?_⟩)
  simp only [Act.put, Act.eval, List.setIfInBounds_toArray, List.set_cons_succ, List.set_cons_zero, Array.getD_eq_getD_getElem?, List.getElem?_toArray, List.getElem?_cons_succ, List.getElem?_cons_zero, Option.getD_some]
  replace hst := hst.step hb1
  clear hb1
  clear hs'
  refine ord_eqlT rfl (by simp [Region.wanted, yielded]) hst _ _ rfl _ _ (by simp [Act.eval] <;> rfl) (by simp [Act.eval] <;> rfl) (eqA a) ?_
  simp only [Act.put, Act.eval, List.setIfInBounds_toArray, List.set_cons_succ, List.set_cons_zero, Array.getD_eq_getD_getElem?, List.getElem?_toArray, List.getElem?_cons_succ, List.getElem?_cons_zero, Option.getD_some]
  refine Reg.ord_pick rfl _ _ _ rfl (by simp [Region.wanted, yielded]) hst true rfl ?_
  simp only [if_true]
  simp only [Act.put, Act.eval, List.setIfInBounds_toArray, List.set_cons_succ, List.set_cons_zero, Array.getD_eq_getD_getElem?, List.getElem?_toArray, List.getElem?_cons_succ, List.getElem?_cons_zero, Option.getD_some]
  refine Reg.ord_move rfl _ rfl (by simp [Region.wanted, yielded]) hst ?_
  simp only [Act.put, Act.eval, List.setIfInBounds_toArray, List.set_cons_succ, List.set_cons_zero, Array.getD_eq_getD_getElem?, List.getElem?_toArray, List.getElem?_cons_succ, List.getElem?_cons_zero, Option.getD_some]
  refine Reg.ord_val rfl (by simp [Region.wanted, yielded]) hst _ (fun w' hS => hS.load mem2 _ rfl (by simp [Act.eval])) ?_
  simp only [Act.put, Act.eval, List.setIfInBounds_toArray, List.set_cons_succ, List.set_cons_zero, Array.getD_eq_getD_getElem?, List.getElem?_toArray, List.getElem?_cons_succ, List.getElem?_cons_zero, Option.getD_some]
  refine Reg.ord_val rfl (by simp [Region.wanted, yielded]) hst _ (fun w' hS => hS.load mem3 _ rfl (by simp [Act.eval])) ?_
  simp only [Act.put, Act.eval, List.setIfInBounds_toArray, List.set_cons_succ, List.set_cons_zero, Array.getD_eq_getD_getElem?, List.getElem?_toArray, List.getElem?_cons_succ, List.getElem?_cons_zero, Option.getD_some]
  refine ord_eqlT rfl (by simp [Region.wanted, yielded]) hst _ _ rfl _ _ (by simp [Act.eval] <;> rfl) (by simp [Act.eval] <;> rfl) (secEq_same rfl) ?_
  simp only [Act.put, Act.eval, List.setIfInBounds_toArray, List.set_cons_succ, List.set_cons_zero, Array.getD_eq_getD_getElem?, List.getElem?_toArray, List.getElem?_cons_succ, List.getElem?_cons_zero, Option.getD_some]
  refine Reg.ord_pick rfl _ _ _ rfl (by simp [Region.wanted, yielded]) hst true rfl ?_
  simp only [if_true]
  simp only [Act.put, Act.eval, List.setIfInBounds_toArray, List.set_cons_succ, List.set_cons_zero, Array.getD_eq_getD_getElem?, List.getElem?_toArray, List.getElem?_cons_succ, List.getElem?_cons_zero, Option.getD_some]
  refine Reg.ord_move rfl _ rfl (by simp [Region.wanted, yielded]) hst ?_
  simp only [Act.put, Act.eval, List.setIfInBounds_toArray, List.set_cons_succ, List.set_cons_zero, Array.getD_eq_getD_getElem?, List.getElem?_toArray, List.getElem?_cons_succ, List.getElem?_cons_zero, Option.getD_some]
  refine Reg.ord_move rfl _ rfl (by simp [Region.wanted, yielded]) hst ?_
  simp only [Act.put, Act.eval, List.setIfInBounds_toArray, List.set_cons_succ, List.set_cons_zero, Array.getD_eq_getD_getElem?, List.getElem?_toArray, List.getElem?_cons_succ, List.getElem?_cons_zero, Option.getD_some]
  refine Reg.ord_val rfl (by simp [Region.wanted, yielded]) hst (.bool true) (fun w' _ => by go_simp) ?_
  simp only [Act.put, Act.eval, List.setIfInBounds_toArray, List.set_cons_succ, List.set_cons_zero, Array.getD_eq_getD_getElem?, List.getElem?_toArray, List.getElem?_cons_succ, List.getElem?_cons_zero, Option.getD_some]
  refine Reg.ord_pick rfl _ _ _ rfl (by simp [Region.wanted, yielded]) hst true rfl ?_
  simp only [if_true]
  simp only [Act.put, Act.eval, List.setIfInBounds_toArray, List.set_cons_succ, List.set_cons_zero, Array.getD_eq_getD_getElem?, List.getElem?_toArray, List.getElem?_cons_succ, List.getElem?_cons_zero, Option.getD_some]
  refine Reg.ord_move rfl _ rfl (by simp [Region.wanted, yielded]) hst ?_
  simp only [Act.put, Act.eval, List.setIfInBounds_toArray, List.set_cons_succ, List.set_cons_zero, Array.getD_eq_getD_getElem?, List.getElem?_toArray, List.getElem?_cons_succ, List.getElem?_cons_zero, Option.getD_some]
  refine Reg.ord_val rfl (by simp [Region.wanted, yielded]) hst _ (fun w' hS => hS.load mem1 _ rfl (by simp [Act.eval])) ?_
  simp only [Act.put, Act.eval, List.setIfInBounds_toArray, List.set_cons_succ, List.set_cons_zero, Array.getD_eq_getD_getElem?, List.getElem?_toArray, List.getElem?_cons_succ, List.getElem?_cons_zero, Option.getD_some]
  refine Reg.ord_val rfl (by simp [Region.wanted, yielded]) hst (secV zeroS) (fun w' _ => run_zero w' _ rfl) ?_
  simp only [Act.put, Act.eval, List.setIfInBounds_toArray, List.set_cons_succ, List.set_cons_zero, Array.getD_eq_getD_getElem?, List.getElem?_toArray, List.getElem?_cons_succ, List.getElem?_cons_zero, Option.getD_some]
  refine ord_eqlT rfl (by simp [Region.wanted, yielded]) hst _ _ rfl _ _ (by simp [Act.eval] <;> rfl) (by simp [Act.eval] <;> rfl) (secEq_same rfl) ?_
  simp only [Act.put, Act.eval, List.setIfInBounds_toArray, List.set_cons_succ, List.set_cons_zero, Array.getD_eq_getD_getElem?, List.getElem?_toArray, List.getElem?_cons_succ, List.getElem?_cons_zero, Option.getD_some]
  refine Reg.ord_pick rfl _ _ _ rfl (by simp [Region.wanted, yielded]) hst true rfl ?_
  simp only [if_true]
  simp only [Act.put, Act.eval, List.setIfInBounds_toArray, List.set_cons_succ, List.set_cons_zero, Array.getD_eq_getD_getElem?, List.getElem?_toArray, List.getElem?_cons_succ, List.getElem?_cons_zero, Option.getD_some]
  refine Reg.ord_move rfl _ rfl (by simp [Region.wanted, yielded]) hst ?_
  simp only [Act.put, Act.eval, List.setIfInBounds_toArray, List.set_cons_succ, List.set_cons_zero, Array.getD_eq_getD_getElem?, List.getElem?_toArray, List.getElem?_cons_succ, List.getElem?_cons_zero, Option.getD_some]
  refine Reg.ord_move rfl _ rfl (by simp [Region.wanted, yielded]) hst ?_
  simp only [Act.put, Act.eval, List.setIfInBounds_toArray, List.set_cons_succ, List.set_cons_zero, Array.getD_eq_getD_getElem?, List.getElem?_toArray, List.getElem?_cons_succ, List.getElem?_cons_zero, Option.getD_some]
  refine Reg.ord_val rfl (by simp [Region.wanted, yielded]) hst (.bool true) (fun w' _ => by go_simp) ?_
  simp only [Act.put, Act.eval, List.setIfInBounds_toArray, List.set_cons_succ, List.set_cons_zero, Array.getD_eq_getD_getElem?, List.getElem?_toArray, List.getElem?_cons_succ, List.getElem?_cons_zero, Option.getD_some]
  refine Reg.ord_pick rfl _ _ _ rfl (by simp [Region.wanted, yielded]) hst true rfl ?_
  simp only [if_true]
  simp only [Act.put, Act.eval, List.setIfInBounds_toArray, List.set_cons_succ, List.set_cons_zero, Array.getD_eq_getD_getElem?, List.getElem?_toArray, List.getElem?_cons_succ, List.getElem?_cons_zero, Option.getD_some]
  refine Reg.ord_move rfl _ rfl (by simp [Region.wanted, yielded]) hst ?_
  simp only [Act.put, Act.eval, List.setIfInBounds_toArray, List.set_cons_succ, List.set_cons_zero, Array.getD_eq_getD_getElem?, List.getElem?_toArray, List.getElem?_cons_succ, List.getElem?_cons_zero, Option.getD_some]
  refine Reg.ord_val rfl (by simp [Region.wanted, yielded]) hst _ (fun w' hS => hS.load mem0 _ rfl (by simp [Act.eval])) ?_
  simp only [Act.put, Act.eval, List.setIfInBounds_toArray, List.set_cons_succ, List.set_cons_zero, Array.getD_eq_getD_getElem?, List.getElem?_toArray, List.getElem?_cons_succ, List.getElem?_cons_zero, Option.getD_some]
  refine Reg.ord_val rfl (by simp [Region.wanted, yielded]) hst _ (fun w' hS => hS.load mem3 _ rfl (by simp [Act.eval])) ?_
  simp only [Act.put, Act.eval, List.setIfInBounds_toArray, List.set_cons_succ, List.set_cons_zero, Array.getD_eq_getD_getElem?, List.getElem?_toArray, List.getElem?_cons_succ, List.getElem?_cons_zero, Option.getD_some]
  refine Reg.ord_val rfl (by simp [Region.wanted, yielded]) hst _ (fun w' hS => hS.load mem4 _ rfl (by simp [Act.eval])) ?_
  simp only [Act.put, Act.eval, List.setIfInBounds_toArray, List.set_cons_succ, List.set_cons_zero, Array.getD_eq_getD_getElem?, List.getElem?_toArray, List.getElem?_cons_succ, List.getElem?_cons_zero, Option.getD_some]
  refine Reg.ord_call rfl (by simp [Region.wanted, yielded]) 13 _ (by go_simp) (xor_any (sxor a b) b _) (fun W1 hb1 => ⟨hst.step hb1, ?_⟩)
  simp only [Act.put, Act.eval, List.setIfInBounds_toArray, List.set_cons_succ, List.set_cons_zero, Array.getD_eq_getD_getElem?, List.getElem?_toArray, List.getElem?_cons_succ, List.getElem?_cons_zero, Option.getD_some]
  replace hst := hst.step hb1
  clear hb1
  refine ord_eqlT rfl (by simp [Region.wanted, yielded]) hst _ _ rfl _ _ (by simp [Act.eval] <;> rfl) (by simp [Act.eval] <;> rfl) (eqB a b) ?_
  simp only [Act.put, Act.eval, List.setIfInBounds_toArray, List.set_cons_succ, List.set_cons_zero, Array.getD_eq_getD_getElem?, List.getElem?_toArray, List.getElem?_cons_succ, List.getElem?_cons_zero, Option.getD_some]
  refine Reg.ord_pick rfl _ _ _ rfl (by simp [Region.wanted, yielded]) hst true rfl ?_
  simp only [if_true]
  simp only [Act.put, Act.eval, List.setIfInBounds_toArray, List.set_cons_succ, List.set_cons_zero, Array.getD_eq_getD_getElem?, List.getElem?_toArray, List.getElem?_cons_succ, List.getElem?_cons_zero, Option.getD_some]
  refine Reg.ord_move rfl _ rfl (by simp [Region.wanted, yielded]) hst ?_
  simp only [Act.put, Act.eval, List.setIfInBounds_toArray, List.set_cons_succ, List.set_cons_zero, Array.getD_eq_getD_getElem?, List.getElem?_toArray, List.getElem?_cons_succ, List.getElem?_cons_zero, Option.getD_some]
  refine Reg.ord_val rfl (by simp [Region.wanted, yielded]) hst _ (fun w' hS => hS.load mem3 _ rfl (by simp [Act.eval])) ?_
  simp only [Act.put, Act.eval, List.setIfInBounds_toArray, List.set_cons_succ, List.set_cons_zero, Array.getD_eq_getD_getElem?, List.getElem?_toArray, List.getElem?_cons_succ, List.getElem?_cons_zero, Option.getD_some]
  refine Reg.ord_val rfl (by simp [Region.wanted, yielded]) hst _ (fun w' hS => hS.load mem4 _ rfl (by simp [Act.eval])) ?_
  simp only [Act.put, Act.eval, List.setIfInBounds_toArray, List.set_cons_succ, List.set_cons_zero, Array.getD_eq_getD_getElem?, List.getElem?_toArray, List.getElem?_cons_succ, List.getElem?_cons_zero, Option.getD_some]
  refine Reg.ord_val rfl (by simp [Region.wanted, yielded]) hst _ (fun w' hS => hS.load mem0 _ rfl (by simp [Act.eval])) ?_
  simp only [Act.put, Act.eval, List.setIfInBounds_toArray, List.set_cons_succ, List.set_cons_zero, Array.getD_eq_getD_getElem?, List.getElem?_toArray, List.getElem?_cons_succ, List.getElem?_cons_zero, Option.getD_some]
  refine Reg.ord_call rfl (by simp [Region.wanted, yielded]) 13 _ (by go_simp) (xor_any b a _) (fun W1 hb1 => ⟨hst.step hb1, ?_⟩)
  simp only [Act.put, Act.eval, List.setIfInBounds_toArray, List.set_cons_succ, List.set_cons_zero, Array.getD_eq_getD_getElem?, List.getElem?_toArray, List.getElem?_cons_succ, List.getElem?_cons_zero, Option.getD_some]
  replace hst := hst.step hb1
  clear hb1
  refine ord_eqlT rfl (by simp [Region.wanted, yielded]) hst _ _ rfl _ _ (by simp [Act.eval] <;> rfl) (by simp [Act.eval] <;> rfl) (eqC a b) ?_
  simp only [Act.put, Act.eval, List.setIfInBounds_toArray, List.set_cons_succ, List.set_cons_zero, Array.getD_eq_getD_getElem?, List.getElem?_toArray, List.getElem?_cons_succ, List.getElem?_cons_zero, Option.getD_some]
  refine Reg.ord_pick rfl _ _ _ rfl (by simp [Region.wanted, yielded]) hst true rfl ?_
  simp only [if_true]
  simp only [Act.put, Act.eval, List.setIfInBounds_toArray, List.set_cons_succ, List.set_cons_zero, Array.getD_eq_getD_getElem?, List.getElem?_toArray, List.getElem?_cons_succ, List.getElem?_cons_zero, Option.getD_some]
  refine Reg.ord_move rfl _ rfl (by simp [Region.wanted, yielded]) hst ?_
  simp only [Act.put, Act.eval, List.setIfInBounds_toArray, List.set_cons_succ, List.set_cons_zero, Array.getD_eq_getD_getElem?, List.getElem?_toArray, List.getElem?_cons_succ, List.getElem?_cons_zero, Option.getD_some]
  refine Reg.ord_val rfl (by simp [Region.wanted, yielded]) hst _ (fun w' hS => hS.load mem4 _ rfl (by simp [Act.eval])) ?_
  simp only [Act.put, Act.eval, List.setIfInBounds_toArray, List.set_cons_succ, List.set_cons_zero, Array.getD_eq_getD_getElem?, List.getElem?_toArray, List.getElem?_cons_succ, List.getElem?_cons_zero, Option.getD_some]
  refine Reg.ord_val rfl (by simp [Region.wanted, yielded]) hst _ (fun w' hS => hS.load mem4 _ rfl (by simp [Act.eval])) ?_
  simp only [Act.put, Act.eval, List.setIfInBounds_toArray, List.set_cons_succ, List.set_cons_zero, Array.getD_eq_getD_getElem?, List.getElem?_toArray, List.getElem?_cons_succ, List.getElem?_cons_zero, Option.getD_some]
  refine Reg.ord_val rfl (by simp [Region.wanted, yielded]) hst (secV zeroS) (fun w' _ => run_zero w' _ rfl) ?_
  simp only [Act.put, Act.eval, List.setIfInBounds_toArray, List.set_cons_succ, List.set_cons_zero, Array.getD_eq_getD_getElem?, List.getElem?_toArray, List.getElem?_cons_succ, List.getElem?_cons_zero, Option.getD_some]
  refine Reg.ord_call rfl (by simp [Region.wanted, yielded]) 13 _ (by go_simp) (xor_any a a _) (fun W1 hb1 => ⟨hst.step hb1, ?_⟩)
  simp only [Act.put, Act.eval, List.setIfInBounds_toArray, List.set_cons_succ, List.set_cons_zero, Array.getD_eq_getD_getElem?, List.getElem?_toArray, List.getElem?_cons_succ, List.getElem?_cons_zero, Option.getD_some]
  replace hst := hst.step hb1
  clear hb1
  refine ord_eqlT rfl (by simp [Region.wanted, yielded]) hst _ _ rfl _ _ (by simp [Act.eval] <;> rfl) (by simp [Act.eval] <;> rfl) (eqD a) ?_
  simp only [Act.put, Act.eval, List.setIfInBounds_toArray, List.set_cons_succ, List.set_cons_zero, Array.getD_eq_getD_getElem?, List.getElem?_toArray, List.getElem?_cons_succ, List.getElem?_cons_zero, Option.getD_some]
  refine Reg.ord_pick rfl _ _ _ rfl (by simp [Region.wanted, yielded]) hst true rfl ?_
  simp only [if_true]
  simp only [Act.put, Act.eval, List.setIfInBounds_toArray, List.set_cons_succ, List.set_cons_zero, Array.getD_eq_getD_getElem?, List.getElem?_toArray, List.getElem?_cons_succ, List.getElem?_cons_zero, Option.getD_some]
  refine Reg.ord_move rfl _ rfl (by simp [Region.wanted, yielded]) hst ?_
  simp only [Act.put, Act.eval, List.setIfInBounds_toArray, List.set_cons_succ, List.set_cons_zero, Array.getD_eq_getD_getElem?, List.getElem?_toArray, List.getElem?_cons_succ, List.getElem?_cons_zero, Option.getD_some]
  refine Reg.ord_val rfl (by simp [Region.wanted, yielded]) hst _ (fun w' hS => hS.load mem4 _ rfl (by simp [Act.eval])) ?_
  simp only [Act.put, Act.eval, List.setIfInBounds_toArray, List.set_cons_succ, List.set_cons_zero, Array.getD_eq_getD_getElem?, List.getElem?_toArray, List.getElem?_cons_succ, List.getElem?_cons_zero, Option.getD_some]
  refine Reg.ord_val rfl (by simp [Region.wanted, yielded]) hst _ (fun w' hS => hS.load mem4 _ rfl (by simp [Act.eval])) ?_
  simp only [Act.put, Act.eval, List.setIfInBounds_toArray, List.set_cons_succ, List.set_cons_zero, Array.getD_eq_getD_getElem?, List.getElem?_toArray, List.getElem?_cons_succ, List.getElem?_cons_zero, Option.getD_some]
  refine Reg.ord_val rfl (by simp [Region.wanted, yielded]) hst _ (fun w' hS => hS.load mem3 _ rfl (by simp [Act.eval])) ?_
  simp only [Act.put, Act.eval, List.setIfInBounds_toArray, List.set_cons_succ, List.set_cons_zero, Array.getD_eq_getD_getElem?, List.getElem?_toArray, List.getElem?_cons_succ, List.getElem?_cons_zero, Option.getD_some]
  refine Reg.ord_val rfl (by simp [Region.wanted, yielded]) hst _ (fun w' hS => hS.load mem3 _ rfl (by simp [Act.eval])) ?_
  simp only [Act.put, Act.eval, List.setIfInBounds_toArray, List.set_cons_succ, List.set_cons_zero, Array.getD_eq_getD_getElem?, List.getElem?_toArray, List.getElem?_cons_succ, List.getElem?_cons_zero, Option.getD_some]
  refine Reg.ord_call rfl (by simp [Region.wanted, yielded]) 15 _ (by go_simp) (plug_any a a b _) (fun W1 hb1 => ⟨hst.step hb1, ?_⟩)
  simp only [Act.put, Act.eval, List.setIfInBounds_toArray, List.set_cons_succ, List.set_cons_zero, Array.getD_eq_getD_getElem?, List.getElem?_toArray, List.getElem?_cons_succ, List.getElem?_cons_zero, Option.getD_some]
  replace hst := hst.step hb1
  clear hb1
  refine ord_eqlT rfl (by simp [Region.wanted, yielded]) hst _ _ rfl _ _ (by simp [Act.eval] <;> rfl) (by simp [Act.eval] <;> rfl) (eqE a b) ?_
  simp only [Act.put, Act.eval, List.setIfInBounds_toArray, List.set_cons_succ, List.set_cons_zero, Array.getD_eq_getD_getElem?, List.getElem?_toArray, List.getElem?_cons_succ, List.getElem?_cons_zero, Option.getD_some]
  refine Reg.ord_pick rfl _ _ _ rfl (by simp [Region.wanted, yielded]) hst true rfl ?_
  simp only [if_true]
  simp only [Act.put, Act.eval, List.setIfInBounds_toArray, List.set_cons_succ, List.set_cons_zero, Array.getD_eq_getD_getElem?, List.getElem?_toArray, List.getElem?_cons_succ, List.getElem?_cons_zero, Option.getD_some]
  refine Reg.ord_assign rfl _ rfl (by simp [Region.wanted, yielded]) hst ?_
  simp only [Act.put, Act.eval, List.setIfInBounds_toArray, List.set_cons_succ, List.set_cons_zero, Array.getD_eq_getD_getElem?, List.getElem?_toArray, List.getElem?_cons_succ, List.getElem?_cons_zero, Option.getD_some]
  refine Reg.ord_nil ?_
  go_wp2
  go_ret
  exact ⟨rfl, hst.below⟩
/-! ### The row's step -/
set_option maxRecDepth 100000 in
theorem lifted (os : Os) (started : os.Started) (H : Type) (enc : TypeId × Value → H) :
    ReturnsInHanded {} Try.checked os 7 .any (Rows.parityAloneSpec.pre6 enc Try.prog Try.f7 Rows.parityAloneRow.domain false) (Rows.parityAloneSpec.post enc Try.prog Try.f7 false true false false) := by
  refine returnsInHanded_of_change (C := Try.checked) own started (by kernel_rfl) Try.func7
    (ChangeSpec.witness6 (enc := enc) (C := Try.checked) false ⟨#[], #[secV zeroS, secV zeroS], []⟩ 8 (by kernel_rfl) (by kernel_rfl) (by kernel_rfl) (by kernel_rfl)) ?_
  intro W base args ds gs before hval0 hW hcnd _
  have hval : ∀ (j : Nat) t v, Try.f7.params[j]? = some t → args[j]? = some v → Value.okWide Try.prog W .any base t v := hval0
  have hW' := hW
  obtain ⟨p, q, hA0, hV, rfl, hfz, hnd⟩ := hW
  have hA : DataW.TrodAll enc Try.prog W 0 (fun _ => true) true Try.f7.params.toList args.toList ds p := hA0
  rw [Try.params7] at hA hval
  obtain ⟨v0, vs0, d0, ds0, p0, q0, hargs, rfl, rfl, h0, r0⟩ := trodAll_cons hA
  obtain ⟨v1, vs1, d1, ds1, p1, q1, rfl, rfl, rfl, h1, r1⟩ := trodAll_cons r0
  obtain ⟨rfl, rfl, rfl⟩ := trodAll_nil r1
  obtain rfl : args = #[v0, v1] := by cases args; simp_all
  obtain ⟨rfl, rfl⟩ := trodVars_none hV
  have k0 := h0
  have lt0 : ∀ x ∈ p0, x.block < W.heap.size := by obtain ⟨m, hm⟩ := k0; exact DataW.trod_lt m _ _ _ hm
  obtain ⟨x0, rfl⟩ := open_sec (hval 0 24 v0 rfl rfl) k0
  have k1 := h1
  have lt1 : ∀ x ∈ p1, x.block < W.heap.size := by obtain ⟨m, hm⟩ := k1; exact DataW.trod_lt m _ _ _ hm
  obtain ⟨x1, rfl⟩ := open_sec (hval 1 24 v1 rfl rfl) k1
  clear hA0 hval0
  refine (walk x0 x1 W ).mono fun e W' ⟨he, bel⟩ => ?_
  subst he
  exact ⟨_, rfl, _, _, _, [], _, [], hW', trodAll_mk1 (shut_bool Try.underlying4 _), (trodAll_cons_mk (Below.trod laidOut (by kernel_rfl) (of_decide_eq_true (by kernel_rfl)) k0 bel lt0) (trodAll_cons_mk (Below.trod laidOut (by kernel_rfl) (of_decide_eq_true (by kernel_rfl)) k1 bel lt1) trodAll_mk0)), rfl, bel.frame _, fun h => by cases h⟩

theorem over : Rows.parityAloneRow.holds Try.pinned (OpenSpec.ofChange Rows.parityAloneSpec) :=
  OpenClaim.holds_of_wide 7 Try.f7 rfl rfl rfl rfl rfl rfl rfl ⟨rfl, rfl, rfl, rfl, rfl⟩ rfl rfl rfl rfl rfl (by kernel_rfl) Try.func7 (by kernel_rfl)
    (of_decide_eq_true (by kernel_rfl)) (by unfold Func.isWrapper; first | (rw [if_pos (by decide +kernel)]; kernel_rfl) | (rw [if_neg (by decide +kernel)]; exact ⟨rfl, rfl⟩))
    (fun os started H enc _ => lifted os started H enc)

/-- The statement. -/
theorem proved : Rows.ParityAloneSaid := over
#print axioms proved
end Go.Proofs.Ytpmhhfphbackdaa.alone
