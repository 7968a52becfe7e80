/- The walk of what must be in any case (shown). -/
import Derived.Test.YtgmpekkoffkphaaWalk8
namespace Go.Proofs.Ytgmpekkoffkphaa
open Go.RowKit flt
set_option linter.unusedSimpArgs false

theorem run_ceq {p q r s : Nat} {m n : Int} (t : TypeId) (h1 : rep p m) (h2 : rep q n) (h3 : rep r m) (h4 : rep s n) (w : World) : (binOp .eql t (.complex .f64 p q) (.complex .f64 r s)).run Try.prog w = .ok (.bool true) w := by
  rw [run_eql_complex, rep_order h1 h3, rep_order h2 h4]
  simp [compare, compareOfLessAndEq]
theorem wl_eqc {ops : Array Oper} {rest : List Oper} {o : Oper} {a : Act} {W : World} {Q : Exit → Act → World → Prop} (hw : Region.wanted o (yielded ops a.tmps) = true) (t : TypeId) (x y : Operand) (ho : o.op = .binOp .eql t x y t) {p q r s : Nat} {m n : Int} (hx : a.eval x = .complex .f64 p q) (hy : a.eval y = .complex .f64 r s)
    (h1 : rep p m) (h2 : rep q n) (h3 : rep r m) (h4 : rep s n) (hK : wpList Try.prog ops Q rest (a.put o.dst (.bool true)) W) : wpList Try.prog ops Q (o :: rest) a W := by
  refine wpList_want hw fun K hK' => ?_
  have g1 : (eqGuard .eql t x y (.complex .f64 p q) (.complex .f64 r s)).run Try.prog W = .ok () W := rfl
  unfold Oper.wp execOp
  simp only [ho, hx, hy, Sem.run_bind, g1, run_ceq t h1 h2 h3 h4, Result.andThen_ok, Sem.run_pure]
  exact hK' _ _ hK
theorem sm (n : Int) (h : -2097152 ≤ n ∧ n ≤ 2097152) : small n := h
theorem frk (a b : Int) (w : World) : Calls Try.prog 13 #[.int .i64 a, .int .i64 b] w fun e w' => (∃ v, e = .returned v ∧ IsC v (num a b) (den b)) ∧ w = w' :=
  (fraction_any a b w).mono fun _ _ h => ⟨h.1, h.2.symm⟩
theorem fuk {a b c d : Nat} {x u y v : Int} (ha : rep a x) (hb : rep b u) (hc : rep c y) (hd : rep d v) (hx : small x) (hu : small u) (hy : small y) (hv : small v) (w : World) :
    Calls Try.prog 11 #[.complex .f64 a b, .complex .f64 c d] w fun e w' => e = .returned (.int .i64 (ful x u y v)) ∧ w = w' :=
  (fuller_any ha hb hc hd hx hu hy hv w).mono fun _ _ h => ⟨h.1, h.2.symm⟩
def shL : List Fr := [(3, 4), (1, 2), (4, 8), (1, 8)]
theorem shL_ok : ∀ p ∈ shL, Fr.ok p := by
  intro p hp
  simp only [shL, List.mem_cons, List.not_mem_nil, or_false] at hp
  rcases hp with rfl | rfl | rfl | rfl <;> (unfold Fr.ok; decide)
theorem shL_is {w : World} {a1 b1 a2 b2 a3 b3 a4 b4 : Nat} (p1 : rep a1 3) (q1 : rep b1 4) (p2 : rep a2 1) (q2 : rep b2 2) (p3 : rep a3 4) (q3 : rep b3 8) (p4 : rep a4 1) (q4 : rep b4 8) :
    IsCs (w.alloc (.cells #[.complex .f64 a1 b1, .complex .f64 a2 b2, .complex .f64 a3 b3, .complex .f64 a4 b4] 33)) (.slice (some ⟨w.heap.size, 0, none⟩) 4 4) shL := by
  have h := heap_alloc_new w (.cells #[.complex .f64 a1 b1, .complex .f64 a2 b2, .complex .f64 a3 b3, .complex .f64 a4 b4] 33)
  refine .inr ⟨w.heap.size, 0, 4, rfl, by decide, by decide, by decide, fun i hi => ?_⟩
  match i, hi with
  | 0, _ => exact ⟨_, by rw [cell_of_row _ _ _ _ _ _ h]; rfl, _, _, rfl, p1, q1⟩
  | 1, _ => exact ⟨_, by rw [cell_of_row _ _ _ _ _ _ h]; rfl, _, _, rfl, p2, q2⟩
  | 2, _ => exact ⟨_, by rw [cell_of_row _ _ _ _ _ _ h]; rfl, _, _, rfl, p3, q3⟩
  | 3, _ => exact ⟨_, by rw [cell_of_row _ _ _ _ _ _ h]; rfl, _, _, rfl, p4, q4⟩
set_option maxHeartbeats 2000000 in
theorem shown_any (w : World) : Calls Try.prog 8 #[] w fun e w' => e = .returned (.bool true) ∧ Below w.heap.size w w' := by
  go_enter Try.func8, Try.ntmps8
  go_wp2_with fail
  refine (frk 1 2 _).mono ?_
  rintro e W1 ⟨⟨v1, rfl, a1, b1, rfl, p1, q1⟩, rfl⟩
  rw [show num 1 2 = 1 from rfl] at p1
  rw [show den 2 = 2 from rfl] at q1
  go_wp2_with fail
  refine (frk 2 4 _).mono ?_
  rintro e W2 ⟨⟨v2, rfl, a2, b2, rfl, p2, q2⟩, rfl⟩
  rw [show num 2 4 = 2 from rfl] at p2
  rw [show den 4 = 4 from rfl] at q2
  go_wp2_with fail
  refine (fuk p1 q1 p2 q2 (sm _ (by decide)) (sm _ (by decide)) (sm _ (by decide)) (sm _ (by decide)) _).mono ?_
  rintro e W3 ⟨rfl, rfl⟩
  rw [show ful 1 2 2 4 = 0 from rfl]
  clear p1 q1 p2 q2
  go_wp2_with fail
  refine (frk 3 4 _).mono ?_
  rintro e W4 ⟨⟨v1, rfl, a1, b1, rfl, p1, q1⟩, rfl⟩
  rw [show num 3 4 = 3 from rfl] at p1
  rw [show den 4 = 4 from rfl] at q1
  go_wp2_with fail
  refine (frk 1 2 _).mono ?_
  rintro e W5 ⟨⟨v2, rfl, a2, b2, rfl, p2, q2⟩, rfl⟩
  rw [show num 1 2 = 1 from rfl] at p2
  rw [show den 2 = 2 from rfl] at q2
  go_wp2_with fail
  refine (fuk p1 q1 p2 q2 (sm _ (by decide)) (sm _ (by decide)) (sm _ (by decide)) (sm _ (by decide)) _).mono ?_
  rintro e W6 ⟨rfl, rfl⟩
  rw [show ful 3 4 1 2 = 1 from rfl]
  clear p1 q1 p2 q2
  go_wp2_with fail
  refine (frk 3 4 _).mono ?_
  rintro e W7 ⟨⟨v1, rfl, a1, b1, rfl, p1, q1⟩, rfl⟩
  rw [show num 3 4 = 3 from rfl] at p1
  rw [show den 4 = 4 from rfl] at q1
  go_wp2_with fail
  refine (frk 1 2 _).mono ?_
  rintro e W8 ⟨⟨v2, rfl, a2, b2, rfl, p2, q2⟩, rfl⟩
  rw [show num 1 2 = 1 from rfl] at p2
  rw [show den 2 = 2 from rfl] at q2
  go_wp2_with fail
  refine (frk 4 8 _).mono ?_
  rintro e W9 ⟨⟨v3, rfl, a3, b3, rfl, p3, q3⟩, rfl⟩
  rw [show num 4 8 = 4 from rfl] at p3
  rw [show den 8 = 8 from rfl] at q3
  go_wp2_with fail
  refine (frk 1 8 _).mono ?_
  rintro e W10 ⟨⟨v4, rfl, a4, b4, rfl, p4, q4⟩, rfl⟩
  rw [show num 1 8 = 1 from rfl] at p4
  rw [show den 8 = 8 from rfl] at q4
  go_wp2_with fail
  have hs := shL_is (w := w) p1 q1 p2 q2 p3 q3 p4 q4
  have hst := below_alloc w (.cells #[.complex .f64 a1 b1, .complex .f64 a2 b2, .complex .f64 a3 b3, .complex .f64 a4 b4] 33)
  clear p1 q1 p2 q2 p3 q3 p4 q4
  generalize hv : (some ⟨w.heap.size, 0, none⟩ : Option Addr) = ad at *
  clear hv
  generalize w.alloc (.cells #[.complex .f64 a1 b1, .complex .f64 a2 b2, .complex .f64 a3 b3, .complex .f64 a4 b4] 33) = W11 at *
  refine (spread_any (.slice ad 4 4) shL shL_ok _ hs).mono ?_
  rintro e W12 ⟨rfl, hb12⟩
  rw [show shL.length = 4 from rfl, show wrs shL 4 = 0 from by decide, show bst shL 4 = 3 from by decide]
  have hs12 := hs.step hb12
  have hst12 := hst.trans (hb12.mono hst.size)
  clear hs hst hb12
  go_wp2_with fail
  refine (spread_any _ [] (fun _ h => absurd h (List.not_mem_nil)) _ (.inl ⟨_, _, rfl, fun _ => rfl, rfl⟩)).mono ?_
  rintro e W13 ⟨rfl, hb13⟩
  rw [show ([] : List Fr).length = 0 from rfl, show wrs [] 0 = 0 from rfl, show bst [] 0 = 0 from rfl]
  have hs13 := hs12.step hb13
  have hst13 := hst12.trans (hb13.mono hst12.size)
  clear hs12 hst12 hb13
  go_wp2_with fail
  refine (frk 9 4 _).mono ?_
  rintro e W14 ⟨⟨v5, rfl, a5, b5, rfl, p5, q5⟩, rfl⟩
  rw [show num 9 4 = 4 from rfl] at p5
  rw [show den 4 = 4 from rfl] at q5
  go_wp2_with (refine wl_eqc rfl 33 _ _ rfl rfl rfl p5 q5 rep_four rep_four ?_; go_frame)
  clear p5 q5
  refine (frk 0 0 _).mono ?_
  rintro e W15 ⟨⟨v5, rfl, a5, b5, rfl, p5, q5⟩, rfl⟩
  rw [show num 0 0 = 1 from rfl] at p5
  rw [show den 0 = 1 from rfl] at q5
  go_wp2_with (refine wl_eqc rfl 33 _ _ rfl rfl rfl p5 q5 rep_one rep_one ?_; go_frame)
  clear p5 q5
  refine (worth_any (.slice ad 4 4) shL shL_ok _ _ _ hs13).mono ?_
  rintro e W16 ⟨rfl, hb16⟩
  rw [show worthB shL 0 1 = false from by decide]
  have hs16 := hs13.step hb16
  have hst16 := hst13.trans (hb16.mono hst13.size)
  clear hs13 hst13 hb16
  go_wp2_with fail
  refine (worth_any (.slice ad 4 4) shL shL_ok _ _ _ hs16).mono ?_
  rintro e W17 ⟨rfl, hb17⟩
  rw [show worthB shL 2 3 = true from by decide]
  have hs17 := hs16.step hb17
  have hst17 := hst16.trans (hb17.mono hst16.size)
  clear hs16 hst16 hb17
  go_wp2_with fail
  refine (choose_one _).mono ?_
  rintro e W18 ⟨rfl, hb18⟩
  have hs18 := hs17.step hb18
  have hst18 := hst17.trans (hb18.mono hst17.size)
  clear hs17 hst17 hb18
  go_wp2_with fail
  refine (choose_two _ (.slice ad 4 4) shL shL_ok hs18 (by decide) (by decide)).mono ?_
  rintro e W19 ⟨rfl, hb19⟩
  have hst19 := hst18.trans (hb19.mono hst18.size)
  clear hs18 hst18 hb19
  go_wp2_with fail
  exact ret_tmp rfl _ rfl rfl ⟨rfl, hst19⟩
end Go.Proofs.Ytgmpekkoffkphaa
