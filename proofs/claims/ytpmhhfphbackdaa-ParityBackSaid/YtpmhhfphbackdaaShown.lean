/- What must be in any case ('shown' of the statements of layer 11): it answers true. -/
import Derived.Test.YtpmhhfphbackdaaWalk4
namespace Go.Proofs.Ytpmhhfphbackdaa
open Go.RowKit
set_option linter.unusedSimpArgs false

theorem run_b1 (w : World) : (Instr.build 24 #[(0, .int .u8 1)]).run Try.prog w = .ok (secV (s1 1)) w := by kernel_rfl
theorem run_b2 (w : World) : (Instr.build 24 #[(0, .int .u8 2), (63, .int .u8 7)]).run Try.prog w = .ok (secV (s2 2 7)) w := by kernel_rfl
theorem run_b3 (w : World) : (Instr.build 24 #[(0, .int .u8 3), (63, .int .u8 7)]).run Try.prog w = .ok (secV (s2 3 7)) w := by kernel_rfl
theorem run_b4 (w : World) : (Instr.build 24 #[(0, .int .u8 4)]).run Try.prog w = .ok (secV (s1 4)) w := by kernel_rfl
theorem run_b6 (w : World) : (Instr.build 24 #[(0, .int .u8 6), (63, .int .u8 7)]).run Try.prog w = .ok (secV (s2 6 7)) w := by kernel_rfl
def sA : Sec := s1 1
def sB : Sec := s2 2 7
def sP : Sec := par [sA, sB]
theorem sP_eq : secEq sP (s2 3 7) = true := by kernel_rfl
def sX : Sec := rebS [sA, sB, sP] 1
def sY : Sec := rebS [] 0
theorem sB_back : secEq sX sB = true := by kernel_rfl
theorem sE_ok : rebE [sA, sB, sP] 1 = 0 := by kernel_rfl
theorem sF_range : rebE [] 0 = 3 := by kernel_rfl
theorem sPlug : secEq (sxor (sxor sA sP) (s1 4)) (s2 6 7) = true := by kernel_rfl
theorem sCheck : isPar [sA, sB, sP] = true := by kernel_rfl
theorem sNot : isPar [sA] = false := by kernel_rfl
theorem sNil : isPar [] = true := by kernel_rfl

section
variable {ops : Array Oper} {rest : List Oper} {o : Oper} {a : Act} {W0 W : World} {Q : Exit → Act → World → Prop} {L : List (Nat × Sec)}
theorem wl_run (hw : Region.wanted o (yielded ops a.tmps) = true) (v : Value) (hrun : (execOp a.eval o).run Try.prog W = .ok (.value v) W)
    (hK : wpList Try.prog ops Q rest (a.put o.dst v) W) : wpList Try.prog ops Q (o :: rest) a W := by
  refine wpList_want hw fun K hK' => ?_
  unfold Oper.wp
  rw [hrun]
  exact hK' _ _ hK
theorem wl_build1 (hw : Region.wanted o (yielded ops a.tmps) = true) (i : Nat) (x : Operand) (v : Value) (s : Sec) (hrun : ∀ w, (Instr.build 24 #[(i, v)]).run Try.prog w = .ok (secV s) w) (ho : o.op = .build 24 #[(i, x)]) (hx : a.eval x = v)
    (hK : wpList Try.prog ops Q rest (a.put o.dst (secV s)) W) : wpList Try.prog ops Q (o :: rest) a W := by
  refine wpList_want hw fun K hK' => ?_
  unfold Oper.wp execOp
  simp only [ho, List.map_toArray, List.map_cons, List.map_nil, hx, Sem.run_bind, hrun, Result.andThen_ok, Sem.run_pure]
  exact hK' _ _ hK
theorem wl_build2 (hw : Region.wanted o (yielded ops a.tmps) = true) (i j : Nat) (x y : Operand) (v u : Value) (s : Sec) (hrun : ∀ w, (Instr.build 24 #[(i, v), (j, u)]).run Try.prog w = .ok (secV s) w) (ho : o.op = .build 24 #[(i, x), (j, y)]) (hx : a.eval x = v) (hy : a.eval y = u)
    (hK : wpList Try.prog ops Q rest (a.put o.dst (secV s)) W) : wpList Try.prog ops Q (o :: rest) a W := by
  refine wpList_want hw fun K hK' => ?_
  unfold Oper.wp execOp
  simp only [ho, List.map_toArray, List.map_cons, List.map_nil, hx, hy, Sem.run_bind, hrun, Result.andThen_ok, Sem.run_pure]
  exact hK' _ _ hK
theorem wl_eqlT (hw : Region.wanted o (yielded ops a.tmps) = true) (x y : Operand) (ho : o.op = .binOp .eql 24 x y 24) (s t : Sec) (hx : a.eval x = secV s) (hy : a.eval y = secV t) (h : secEq s t = true)
    (hK : wpList Try.prog ops Q rest (a.put o.dst (.bool true)) W) : wpList Try.prog ops Q (o :: rest) a W :=
  wl_eql hw x y ho s t hx hy (by rw [h]; exact hK)
end

set_option maxRecDepth 100000 in
set_option maxHeartbeats 1000000 in
theorem shown_any (w : World) :
    Calls Try.prog 8 #[] w fun e w' => e = .returned (.bool true) ∧ Below w.heap.size w w' := by
  have hst := St.start w
  go_enter Try.func8, Try.ntmps8
  go_wp2_with (first
    | (refine wl_build1 rfl _ _ _ sA run_b1 rfl rfl ?_; go_frame; refine wl_new rfl rfl 1 rfl rfl _ rfl hst sA (by simp [Act.put]) (fun v => by simp [Act.eval, Act.put]) ?_; intro b1 W1 hb1 hc1 hbl1 hst1; clear hst; go_frame)
    | (refine wl_build2 rfl _ _ _ _ _ _ sB run_b2 rfl rfl rfl ?_; go_frame; refine wl_new rfl rfl 2 rfl rfl _ rfl hst1 sB (by simp [Act.put]) (fun v => by simp [Act.eval, Act.put]) ?_; intro b2 W2 hb2 hc2 hbl2 hst2; clear hst1; go_frame)
    | (with_reducible refine wl_load rfl _ rfl hst2 _ _ rfl (by first | exact mem0 | exact mem1) ?_; go_frame)
    | (with_reducible refine wl_slice2 rfl _ _ rfl _ _ rfl rfl hst2 ?_; intro b3 W3 hb3 hc3 hbl3 hst3 hs3; clear hst2; go_frame))
  refine (build_any _ _ _ hs3).mono ?_
  rintro e W4 ⟨rfl, hbl4⟩
  have hst4 := hst3.step hbl4
  clear hst3
  rw [show par [sA, sB] = sP from rfl]
  go_wp2_with (first
    | (refine wl_new rfl rfl 3 rfl rfl _ rfl hst4 sP (by simp [Act.put]) (fun v => by simp [Act.eval, Act.put]) ?_; intro b5 W5 hb5 hc5 hbl5 hst5; clear hst4; go_frame)
    | (with_reducible refine wl_load rfl _ rfl hst5 _ _ rfl (by first | exact mem0 | exact mem1 | exact mem2) ?_; go_frame)
    | (with_reducible refine wl_slice3 rfl _ _ _ rfl _ _ _ rfl rfl rfl hst5 ?_; intro b6 W6 hb6 hc6 hbl6 hst6 hs6; clear hst5; go_frame))
  refine (rebuild_any _ _ 1 _ hs6).mono ?_
  rintro e W7 ⟨rfl, hbl7⟩
  have hst7 := hst6.step hbl7
  clear hst6
  rw [show rebS [sA, sB, sP] 1 = sX from rfl, sE_ok]
  go_wp2_with (first
    | (refine wl_new rfl rfl 4 rfl rfl _ rfl hst7 sX (by simp [Act.put]) (fun v => by simp [Act.eval, Act.put]) ?_; intro b8 W8 hb8 hc8 hbl8 hst8; clear hst7; go_frame))
  refine (rebuild_any _ [] 0 _ (.inl ⟨none, 0, rfl, fun _ => rfl, rfl⟩)).mono ?_
  rintro e W9 ⟨rfl, hbl9⟩
  have hst9 := hst8.step hbl9
  clear hst8
  rw [show rebS [] 0 = sY from rfl, sF_range]
  go_wp2_with (first
    | (refine wl_new rfl rfl 6 rfl rfl _ rfl hst9 sY (by simp [Act.put]) (fun v => by simp [Act.eval, Act.put]) ?_; intro b10 W10 hb10 hc10 hbl10 hst10; clear hst9; go_frame)
    | (with_reducible refine wl_load (by simp [Region.wanted, yielded]) _ rfl hst10 _ _ rfl (by first | exact mem0 | exact mem1 | exact mem2 | exact mem3 | exact mem4) ?_; go_frame)
    | (refine wl_build2 (by simp [Region.wanted, yielded]) _ _ _ _ _ _ (s2 3 7) run_b3 rfl rfl rfl ?_; go_frame)
    | (with_reducible refine wl_eqlT (by simp [Region.wanted, yielded]) _ _ rfl _ _ rfl rfl sP_eq ?_; go_frame)
    | (with_reducible refine wl_eqlT (by simp [Region.wanted, yielded]) _ _ rfl _ _ rfl rfl sB_back ?_; go_frame)
    | (refine wl_build1 (by simp [Region.wanted, yielded]) _ _ _ (s1 4) run_b4 rfl rfl ?_; go_frame))
  refine (plug_any sA sP (s1 4) _).mono ?_
  rintro e W11 ⟨rfl, hbl11⟩
  have hst11 := hst10.step hbl11
  clear hst10
  go_wp2_with (first
    | (with_reducible refine wl_load (by simp [Region.wanted, yielded]) _ rfl hst11 _ _ rfl (by first | exact mem0 | exact mem1 | exact mem2 | exact mem3 | exact mem4) ?_; go_frame)
    | (refine wl_build2 (by simp [Region.wanted, yielded]) _ _ _ _ _ _ (s2 6 7) run_b6 rfl rfl rfl ?_; go_frame)
    | (with_reducible refine wl_eqlT (by simp [Region.wanted, yielded]) _ _ rfl _ _ rfl rfl sPlug ?_; go_frame)
    | (with_reducible refine wl_slice3 (by simp [Region.wanted, yielded]) _ _ _ rfl _ _ _ rfl rfl rfl hst11 ?_; intro b12 W12 hb12 hc12 hbl12 hst12 hs12; clear hst11; go_frame))
  refine (check_any _ _ _ hs12).mono ?_
  rintro e W13 ⟨rfl, hbl13⟩
  have hst13 := hst12.step hbl13
  clear hst12
  rw [sCheck]
  go_wp2_with (first
    | (with_reducible refine wl_load (by simp [Region.wanted, yielded]) _ rfl hst13 _ _ rfl (by first | exact mem0 | exact mem1 | exact mem2 | exact mem3 | exact mem4) ?_; go_frame)
    | (with_reducible refine wl_slice1 (by simp [Region.wanted, yielded]) _ rfl _ rfl hst13 ?_; intro b14 W14 hb14 hc14 hbl14 hst14 hs14; clear hst13; go_frame))
  refine (check_any _ _ _ hs14).mono ?_
  rintro e W15 ⟨rfl, hbl15⟩
  have hst15 := hst14.step hbl15
  clear hst14
  rw [sNot]
  go_wp2_with fail
  refine (check_any _ [] _ (.inl ⟨none, 0, rfl, fun _ => rfl, rfl⟩)).mono ?_
  rintro e W16 ⟨rfl, hbl16⟩
  have hst16 := hst15.step hbl16
  clear hst15
  rw [sNil]
  go_wp2
  go_ret
  exact ⟨rfl, hst16.below⟩
end Go.Proofs.Ytpmhhfphbackdaa
