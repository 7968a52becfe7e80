/- Slices of complex numbers; the walks of policy.Spread, policy.Worth. -/
import Derived.Test.YtgmpekkoffkphaaRegion
namespace Go.Proofs.Ytgmpekkoffkphaa
open Go.RowKit flt
set_option linter.unusedSimpArgs false

theorem ret_tmp3 {fn : Func} {t t' t'' : Tmp} {R : Ending → World → Prop} {a : Act} {W : World} (h : fn.results = #[.tmp t, .tmp t', .tmp t'']) (v v' v'' : Value) (hv : a.tmps.getD t undef = v) (hv' : a.tmps.getD t' undef = v') (hv'' : a.tmps.getD t'' undef = v'') (hd : a.defers = []) (hR : R (.returned (.tuple #[v, v', v''])) W) : bodyPost Try.prog fn R .ret a W :=
  bodyPost_ret (v := .tuple #[v, v', v'']) (by rw [results_tmp3 h, hv, hv', hv'']) hd hR
/-- One fraction: two whole numbers. -/
abbrev Fr := Int × Int
def Fr.ok (p : Fr) : Prop := 0 ≤ p.1 ∧ p.1 ≤ 1048576 ∧ 1 ≤ p.2 ∧ p.2 ≤ 1048576
def CsAt (w : World) (b o : Nat) (l : List Fr) : Prop := ∀ i (hi : i < l.length), ∃ v, w.cell? ⟨b, o + i, none⟩ = some v ∧ IsC v l[i].1 l[i].2
/-- A slice value that reads as these complex numbers. -/
def IsCs (w : World) (v : Value) (l : List Fr) : Prop :=
  (∃ a c, v = .slice a 0 c ∧ (a = none → c = 0) ∧ l = []) ∨ (∃ b o c, v = .slice (some ⟨b, o, none⟩) l.length c ∧ l ≠ [] ∧ l.length ≤ maxLen ∧ l.length ≤ c ∧ CsAt w b o l)
theorem CsAt.step {W W1 : World} {b o : Nat} {l : List Fr} (h : CsAt W b o l) (hb : Below W.heap.size W W1) : CsAt W1 b o l := fun i hi => by
  obtain ⟨v, h1, h2⟩ := h i hi
  exact ⟨v, by rw [hb.cell (World.block_lt_of_cell? _ _ h1)]; exact h1, h2⟩
theorem IsCs.step {W W1 : World} {v : Value} {l : List Fr} (h : IsCs W v l) (hb : Below W.heap.size W W1) : IsCs W1 v l := by
  rcases h with h | ⟨b, o, c, hv, hne, hm, hc, hs⟩
  · exact .inl h
  · exact .inr ⟨b, o, c, hv, hne, hm, hc, hs.step hb⟩

/-- The fuller of two, as a Boolean word over the list: the worst and the best seat after k steps. -/
def fulAt (l : List Fr) (i j : Nat) : Int := ful (l.getD i (0, 1)).1 (l.getD i (0, 1)).2 (l.getD j (0, 1)).1 (l.getD j (0, 1)).2
def fulUp (l : List Fr) (i j : Nat) : Int := ful ((l.getD i (0, 1)).1 + 1) (l.getD i (0, 1)).2 ((l.getD j (0, 1)).1 + 1) (l.getD j (0, 1)).2
def wrs (l : List Fr) : Nat → Nat
  | 0 => 0
  | k + 1 => if 0 < fulAt l k (wrs l k) then k else wrs l k
def bst (l : List Fr) : Nat → Nat
  | 0 => 0
  | k + 1 => if fulUp l k (bst l k) < 0 then k else bst l k
theorem wrs_le (l : List Fr) : ∀ k, wrs l k ≤ k - 1
  | 0 => Nat.le_refl _
  | k + 1 => by have := wrs_le l k; unfold wrs; split <;> omega
theorem bst_le (l : List Fr) : ∀ k, bst l k ≤ k - 1
  | 0 => Nat.le_refl _
  | k + 1 => by have := bst_le l k; unfold bst; split <;> omega
theorem Fr.small1 {p : Fr} (h : p.ok) : small p.1 := ⟨by have := h.1; omega, by have := h.2.1; omega⟩
theorem Fr.small2 {p : Fr} (h : p.ok) : small p.2 := ⟨by have := h.2.2.1; omega, by have := h.2.2.2; omega⟩
theorem Fr.smallUp {p : Fr} (h : p.ok) : small (p.1 + 1) := ⟨by have := h.1; omega, by have := h.2.1; omega⟩

theorem run_load_c {w : World} {b k : Nat} {v : Value} {ρ : Operand → Value} {o : Oper} (x : Operand) (ho : o.op = .load 33 x) (hx : ρ x = .pointer (some ⟨b, k, none⟩)) (hc : w.cell? ⟨b, k, none⟩ = some v) :
    (execOp ρ o).run Try.prog w = .ok (.value v) w := by
  have hagg : (isAgg 33).run Try.prog w = .ok false w := by kernel_rfl
  unfold execOp
  simp [ho, hx, go_sem, Instr.loadAt, Instr.sureAddr, loadVar, Sem.run_bind, hagg, hc]

theorem run_add_c {w : World} {a b c d re im : Nat} {ρ : Operand → Value} {o : Oper} (x y : Operand) (ho : o.op = .binOp .add 33 x y 33) (hx : ρ x = .complex .f64 a b) (hy : ρ y = .complex .f64 c d) (h : cSumBits .add .f64 a b c d = some (re, im)) :
    (execOp ρ o).run Try.prog w = .ok (.value (.complex .f64 re im)) w := by
  unfold execOp
  have hg : (eqGuard .add 33 x y (.complex .f64 a b) (.complex .f64 c d)).run Try.prog w = .ok () w := rfl
  simp only [ho, hx, hy, Sem.run_bind, hg, run_complex_sum (P := Try.prog) w .add (.inl rfl) 33 .f64 a b c d re im h, Result.andThen_ok, Sem.run_pure]

/-- z + 1, of a z that stands for whole numbers. -/
theorem isC_up {a b : Nat} {x u : Int} (ha : rep a x) (hb : rep b u) (hx : small x) (hu : small u) :
    ∃ re im, cSumBits .add .f64 a b 4607182418800017408 0 = some (re, im) ∧ rep re (x + 1) ∧ rep im u := by
  have := hx.1; have := hx.2; have := hu.1; have := hu.2
  obtain ⟨p, hp, rp⟩ := rep_add ha rep_one (by omega)
  obtain ⟨q, hq, rq⟩ := rep_add hb rep_zero (by omega)
  rw [Int.add_zero] at rq
  exact ⟨p, q, by simp only [cSumBits, hp, hq, Option.bind_some], rp, rq⟩

set_option maxHeartbeats 1000000 in
theorem spread_some (b o c : Nat) (l : List Fr) (hok : ∀ p ∈ l, p.ok) (w : World) (hm : l.length ≤ maxLen) (hs : CsAt w b o l) :
    Calls Try.prog 10 #[.slice (some ⟨b, o, none⟩) l.length c] w fun e w' => e = .returned (.tuple #[.int .i64 (wrs l l.length), .int .i64 (bst l l.length), .bool (decide (0 < l.length))]) ∧ Below w.heap.size w w' := by
  unfold maxLen at hm
  go_enter Try.func10, Try.ntmps10
  go_wp2_with fail
  go_loopw [5, 6, 10] (fun x y i wr => ∃ k : Nat, k ≤ l.length ∧ i = .int .i64 k ∧ x = .int .i64 (wrs l k) ∧ y = .int .i64 (bst l k) ∧ Below w.heap.size w wr) (fun _ _ i _ => l.length - (intOf i).toNat)
  case atStart => exact ⟨0, by omega, rfl, rfl, rfl, Below.refl _ _⟩
  case round =>
    obtain ⟨k, hk, rfl, rfl, rfl, hst⟩ := hrel
    by_cases hlt : k < l.length
    · have hwl : wrs l k < l.length := by have := wrs_le l k; omega
      have hbl : bst l k < l.length := by have := bst_le l k; omega
      obtain ⟨vk, hck, ak, bk, rfl, hak, hbk⟩ := (hs.step hst) k hlt
      obtain ⟨vw, hcw, aw, bw, rfl, haw, hbw⟩ := (hs.step hst) (wrs l k) hwl
      obtain ⟨vb, hcb, ab, bb, rfl, hab, hbb⟩ := (hs.step hst) (bst l k) hbl
      have okk : Fr.ok _ := hok _ (List.getElem_mem hlt)
      have okw : Fr.ok _ := hok _ (List.getElem_mem hwl)
      have okb : Fr.ok _ := hok _ (List.getElem_mem hbl)
      have hf1 := fun W => fuller_any hak hbk haw hbw (Fr.small1 okk) (Fr.small2 okk) (Fr.small1 okw) (Fr.small2 okw) W
      obtain ⟨rk, ik, hsk, hrk, hik⟩ := isC_up hak hbk (Fr.small1 okk) (Fr.small2 okk)
      obtain ⟨rb, ib, hsb, hrb, hib⟩ := isC_up hab hbb (Fr.small1 okb) (Fr.small2 okb)
      have hf2 := fun W => fuller_any hrk hik hrb hib (Fr.smallUp okk) (Fr.small2 okk) (Fr.smallUp okb) (Fr.small2 okb) W
      have e1 : ful l[k].1 l[k].2 l[wrs l k].1 l[wrs l k].2 = fulAt l k (wrs l k) := by simp [fulAt, List.getD_eq_getElem?_getD, hlt, hwl]
      have e2 : ful (l[k].1 + 1) l[k].2 (l[bst l k].1 + 1) l[bst l k].2 = fulUp l k (bst l k) := by simp [fulUp, List.getD_eq_getElem?_getD, hlt, hbl]
      rw [e1] at hf1
      rw [e2] at hf2
      have hw1 : wrs l (k + 1) = if 0 < fulAt l k (wrs l k) then k else wrs l k := rfl
      have hb1 : bst l (k + 1) = if fulUp l k (bst l k) < 0 then k else bst l k := rfl
      clear hak hbk haw hbw hab hbb okk okw okb hrk hik hrb hib e1 e2
      generalize fulAt l k (wrs l k) = f1 at *
      generalize fulUp l k (bst l k) = f2 at *
      go_wp2_with fail
      have hck' : wr.drew.cell? ⟨b, o + k, none⟩ = some (.complex .f64 ak bk) := hck
      have hcw' : wr.drew.cell? ⟨b, o + wrs l k, none⟩ = some (.complex .f64 aw bw) := hcw
      have hcb' : wr.drew.cell? ⟨b, o + bst l k, none⟩ = some (.complex .f64 ab bb) := hcb
      have hst' := hst.drew
      refine Reg.region_ord (S := fun w' => w' = wr.drew) [(0, 1), (1, 1), (2, 1), (3, 1), (4, 1), (5, 1), (6, 1), (7, 1), (8, 0), (9, 0)] (by kernel_rfl) (by kernel_rfl) (by decide) (by kernel_rfl) (fun _ _ _ _ _ h => h) ?_
      repeat (refine Reg.ord_move rfl _ rfl rfl rfl ?_; simp only [Act.put, Act.eval, List.setIfInBounds_toArray, List.set_cons_succ, List.set_cons_zero, Array.getD_eq_getD_getElem?, List.getElem?_toArray, List.getElem?_cons_succ, List.getElem?_cons_zero, Option.getD_some])
      refine Reg.ord_val rfl rfl rfl (.pointer (some ⟨b, o + k, none⟩)) (fun w' _ => by go_simp) ?_
      simp only [Act.put, Act.eval, List.setIfInBounds_toArray, List.set_cons_succ, List.set_cons_zero, Array.getD_eq_getD_getElem?, List.getElem?_toArray, List.getElem?_cons_succ, List.getElem?_cons_zero, Option.getD_some]
      refine Reg.ord_val rfl rfl rfl (.complex .f64 ak bk) (fun w' h => by subst h; exact run_load_c _ rfl rfl hck') ?_
      simp only [Act.put, Act.eval, List.setIfInBounds_toArray, List.set_cons_succ, List.set_cons_zero, Array.getD_eq_getD_getElem?, List.getElem?_toArray, List.getElem?_cons_succ, List.getElem?_cons_zero, Option.getD_some]
      repeat (refine Reg.ord_move rfl _ rfl rfl rfl ?_; simp only [Act.put, Act.eval, List.setIfInBounds_toArray, List.set_cons_succ, List.set_cons_zero, Array.getD_eq_getD_getElem?, List.getElem?_toArray, List.getElem?_cons_succ, List.getElem?_cons_zero, Option.getD_some])
      refine Reg.ord_val rfl rfl rfl (.pointer (some ⟨b, o + wrs l k, none⟩)) (fun w' _ => by go_simp) ?_
      simp only [Act.put, Act.eval, List.setIfInBounds_toArray, List.set_cons_succ, List.set_cons_zero, Array.getD_eq_getD_getElem?, List.getElem?_toArray, List.getElem?_cons_succ, List.getElem?_cons_zero, Option.getD_some]
      refine Reg.ord_val rfl rfl rfl (.complex .f64 aw bw) (fun w' h => by subst h; exact run_load_c _ rfl (by simp [Act.eval]) hcw') ?_
      simp only [Act.put, Act.eval, List.setIfInBounds_toArray, List.set_cons_succ, List.set_cons_zero, Array.getD_eq_getD_getElem?, List.getElem?_toArray, List.getElem?_cons_succ, List.getElem?_cons_zero, Option.getD_some]
      refine Reg.ord_call rfl rfl 11 _ (by go_simp) (hf1 _) (fun W4 hb4 => ⟨hb4, ?_⟩)
      subst hb4
      simp only [Act.put, Act.eval, List.setIfInBounds_toArray, List.set_cons_succ, List.set_cons_zero, Array.getD_eq_getD_getElem?, List.getElem?_toArray, List.getElem?_cons_succ, List.getElem?_cons_zero, Option.getD_some]
      by_cases h1 : 0 < f1
      all_goals
        first | rw [if_pos h1] at hw1 | rw [if_neg h1] at hw1
        refine Reg.ord_step rfl ?_
        refine wl_bin rfl .gtr 3 3 _ _ rfl (.int .i64 f1) (.int .i64 0) (.bool (decide (0 < f1))) (fun w => by go_simp) rfl rfl (by decide) ?_
        first | rw [decide_eq_true h1] | rw [decide_eq_false h1]
        refine wpList_nil ⟨rfl, ?_⟩
        simp only [Act.put, Act.eval, List.setIfInBounds_toArray, List.set_cons_succ, List.set_cons_zero, Array.getD_eq_getD_getElem?, List.getElem?_toArray, List.getElem?_cons_succ, List.getElem?_cons_zero, Option.getD_some]
        refine Reg.ord_nil ?_
        go_wp2_with fail
      all_goals
        clear hck hcw hcb hf1 hcw'
        have hck : wr.drew.drew.cell? ⟨b, o + k, none⟩ = some (.complex .f64 ak bk) := hck'
        have hcb : wr.drew.drew.cell? ⟨b, o + bst l k, none⟩ = some (.complex .f64 ab bb) := hcb'
        have hst := hst'.drew
        clear hck' hcb' hst'
        refine Reg.region_ord (S := fun w' => w' = wr.drew.drew) [(0, 1), (1, 1), (2, 1), (3, 1), (4, 1), (5, 1), (6, 1), (7, 1), (8, 1), (9, 1), (10, 0), (11, 0)] (by kernel_rfl) (by kernel_rfl) (by decide) (by kernel_rfl) (fun _ _ _ _ _ h => h) ?_
        generalize wr.drew.drew = W at *
        repeat (refine Reg.ord_move rfl _ rfl rfl rfl ?_; simp only [Act.put, Act.eval, List.setIfInBounds_toArray, List.set_cons_succ, List.set_cons_zero, Array.getD_eq_getD_getElem?, List.getElem?_toArray, List.getElem?_cons_succ, List.getElem?_cons_zero, Option.getD_some])
        refine Reg.ord_val rfl rfl rfl (.pointer (some ⟨b, o + k, none⟩)) (fun w' _ => by go_simp) ?_
        simp only [Act.put, Act.eval, List.setIfInBounds_toArray, List.set_cons_succ, List.set_cons_zero, Array.getD_eq_getD_getElem?, List.getElem?_toArray, List.getElem?_cons_succ, List.getElem?_cons_zero, Option.getD_some]
        refine Reg.ord_val rfl rfl rfl (.complex .f64 ak bk) (fun w' h => by subst h; exact run_load_c _ rfl (by simp [Act.eval]) hck) ?_
        simp only [Act.put, Act.eval, List.setIfInBounds_toArray, List.set_cons_succ, List.set_cons_zero, Array.getD_eq_getD_getElem?, List.getElem?_toArray, List.getElem?_cons_succ, List.getElem?_cons_zero, Option.getD_some]
        refine Reg.ord_val rfl rfl rfl (.complex .f64 rk ik) (fun w' h => run_add_c _ _ rfl (by simp [Act.eval]) (by simp [Act.eval]) hsk) ?_
        simp only [Act.put, Act.eval, List.setIfInBounds_toArray, List.set_cons_succ, List.set_cons_zero, Array.getD_eq_getD_getElem?, List.getElem?_toArray, List.getElem?_cons_succ, List.getElem?_cons_zero, Option.getD_some]
        repeat (refine Reg.ord_move rfl _ rfl rfl rfl ?_; simp only [Act.put, Act.eval, List.setIfInBounds_toArray, List.set_cons_succ, List.set_cons_zero, Array.getD_eq_getD_getElem?, List.getElem?_toArray, List.getElem?_cons_succ, List.getElem?_cons_zero, Option.getD_some])
        refine Reg.ord_val rfl rfl rfl (.pointer (some ⟨b, o + bst l k, none⟩)) (fun w' _ => by go_simp) ?_
        simp only [Act.put, Act.eval, List.setIfInBounds_toArray, List.set_cons_succ, List.set_cons_zero, Array.getD_eq_getD_getElem?, List.getElem?_toArray, List.getElem?_cons_succ, List.getElem?_cons_zero, Option.getD_some]
        refine Reg.ord_val rfl rfl rfl (.complex .f64 ab bb) (fun w' h => by subst h; exact run_load_c _ rfl (by simp [Act.eval]) hcb) ?_
        simp only [Act.put, Act.eval, List.setIfInBounds_toArray, List.set_cons_succ, List.set_cons_zero, Array.getD_eq_getD_getElem?, List.getElem?_toArray, List.getElem?_cons_succ, List.getElem?_cons_zero, Option.getD_some]
        refine Reg.ord_val rfl rfl rfl (.complex .f64 rb ib) (fun w' h => run_add_c _ _ rfl (by simp [Act.eval]) (by simp [Act.eval]) hsb) ?_
        simp only [Act.put, Act.eval, List.setIfInBounds_toArray, List.set_cons_succ, List.set_cons_zero, Array.getD_eq_getD_getElem?, List.getElem?_toArray, List.getElem?_cons_succ, List.getElem?_cons_zero, Option.getD_some]
        refine Reg.ord_call rfl rfl 11 _ (by go_simp) (hf2 _) (fun W4 hb4 => ⟨hb4, ?_⟩)
        subst hb4
        simp only [Act.put, Act.eval, List.setIfInBounds_toArray, List.set_cons_succ, List.set_cons_zero, Array.getD_eq_getD_getElem?, List.getElem?_toArray, List.getElem?_cons_succ, List.getElem?_cons_zero, Option.getD_some]
        refine Reg.ord_step rfl ?_
        refine wl_bin rfl .lss 3 3 _ _ rfl (.int .i64 f2) (.int .i64 0) (.bool (decide (f2 < 0))) (fun w => by go_simp) (by simp [Act.eval]) rfl (by decide) ?_
        refine wpList_nil ⟨rfl, ?_⟩
        simp only [Act.put, Act.eval, List.setIfInBounds_toArray, List.set_cons_succ, List.set_cons_zero, Array.getD_eq_getD_getElem?, List.getElem?_toArray, List.getElem?_cons_succ, List.getElem?_cons_zero, Option.getD_some]
        refine Reg.ord_nil ?_
        by_cases h2 : f2 < 0
        all_goals
          first | rw [if_pos h2] at hb1 | rw [if_neg h2] at hb1
          first | rw [decide_eq_true h2] | rw [decide_eq_false h2]
          go_wp2_with fail
          go_roundw
          case rel => exact ⟨k + 1, by omega, by go_num, by rw [hw1], by rw [hb1], hst⟩
          case measure => simp [intOf]; omega
    · obtain rfl : k = l.length := by omega
      go_wp2
      refine ret_tmp3 rfl _ _ _ rfl rfl rfl rfl ⟨?_, hst⟩
      simp

theorem spread_any (v : Value) (l : List Fr) (hok : ∀ p ∈ l, p.ok) (w : World) (hs : IsCs w v l) :
    Calls Try.prog 10 #[v] w fun e w' => e = .returned (.tuple #[.int .i64 (wrs l l.length), .int .i64 (bst l l.length), .bool (decide (0 < l.length))]) ∧ Below w.heap.size w w' := by
  rcases hs with ⟨a, c, rfl, _, rfl⟩ | ⟨b, o, c, rfl, hne, hm, _, hs⟩
  · go_enter Try.func10, Try.ntmps10
    go_wp2_with fail
    refine wp_loop_rounds 1 ?_
    rw [rounds_succ]
    go_wp2
    exact ret_tmp3 rfl _ _ _ rfl rfl rfl rfl ⟨rfl, Below.refl _ _⟩
  · exact spread_some b o c l hok w hm hs

/-- Is it a seat? -/
def isIn (i : Int) (n : Nat) : Bool := decide (0 ≤ i) && decide (i < (n : Int))
theorem in_any (g : Nat) (a : Option Addr) (n c : Nat) (i : Int) (w : World) (hc : w.cell? ⟨g, 0, none⟩ = some (.slice a n c)) :
    Calls Try.prog 19 #[.int .i64 i, .pointer (some ⟨g, 0, none⟩)] w fun e w' => e = .returned (.bool (isIn i n)) ∧ w' = w := by
  by_cases h : 0 ≤ i
  · rw [isIn, decide_eq_true h]
    go_enter Try.func19, Try.ntmps19
    go_wp2
    all_goals exact ret_tmp rfl _ rfl rfl ⟨rfl, rfl⟩
  · rw [isIn, decide_eq_false h]
    go_enter Try.func19, Try.ntmps19
    go_wp2
    all_goals exact ret_tmp rfl _ rfl rfl ⟨rfl, rfl⟩
/-- Is it worth to take one from i and give it to j? -/
def worthB (l : List Fr) (i j : Int) : Bool := isIn i l.length && (isIn j l.length && decide (0 < ful (l.getD i.toNat (0, 1)).1 (l.getD i.toNat (0, 1)).2 ((l.getD j.toNat (0, 1)).1 + 1) (l.getD j.toNat (0, 1)).2))
theorem ord_skip0 {P : Program} {l : List Oper} {S : World → Prop} {Q : Exit → Act → World → Prop} {a : Act} {w : World} {i : Nat} {o : Oper} {r : List (Nat × Nat)} (ho : Reg.nth l i = some o) (hw : Region.wanted o (yielded l.toArray a.tmps) = false) (hS : S w)
    (h : Reg.wpOrd P l.toArray S Q r (a.put o.dst undef) w) : Reg.wpOrd P l.toArray S Q ((i, 0) :: r) a w :=
  Reg.ord_step ho (wpList_step fun K hK => by rw [if_neg (by rw [hw]; exact Bool.false_ne_true)]; exact hK _ _ (wpList_nil ⟨hS, h⟩))
theorem worth_A (a : Option Addr) (l : List Fr) (c : Nat) (i j : Int) (w : World) (h : isIn i l.length = false) :
    Calls Try.prog 12 #[.slice a l.length c, .int .i64 i, .int .i64 j] w fun e w' => e = .returned (.bool false) ∧ Below w.heap.size w w' := by
  go_enter Try.func12, Try.ntmps12
  go_wp2_with fail
  have hc : (w.alloc (.cells #[.slice a l.length c] 25)).drew.cell? ⟨w.heap.size, 0, none⟩ = some (.slice a l.length c) := by
    show (w.alloc (.cells #[.slice a l.length c] 25)).cell? _ = _
    rw [cell_of_row _ _ _ _ _ _ (heap_alloc_new w _)]; rfl
  have hb := (below_alloc w (.cells #[.slice a l.length c] 25)).drew
  refine Reg.region_ord (S := fun w' => w' = (w.alloc (.cells #[.slice a l.length c] 25)).drew) [(0, 1), (1, 1), (2, 0), (3, 1), (4, 1), (5, 1), (6, 0), (7, 1), (8, 1), (9, 1), (10, 1), (11, 1), (12, 1), (13, 1), (14, 1), (15, 1), (16, 1), (17, 1), (18, 0), (19, 1), (20, 1), (21, 1)] (by kernel_rfl) (by kernel_rfl) (by decide) (by kernel_rfl) (fun _ _ _ _ _ h => h) ?_
  generalize (w.alloc (.cells #[.slice a l.length c] 25)).drew = W at *
  repeat (refine Reg.ord_move rfl _ rfl rfl rfl ?_; simp only [Act.put, Act.eval, List.setIfInBounds_toArray, List.set_cons_succ, List.set_cons_zero, Array.getD_eq_getD_getElem?, List.getElem?_toArray, List.getElem?_cons_succ, List.getElem?_cons_zero, Option.getD_some])
  refine Reg.ord_call rfl rfl 19 #[.int .i64 i, .pointer (some ⟨w.heap.size, 0, none⟩)] (by go_simp) (in_any _ _ _ _ i _ hc) (fun W4 hb4 => ⟨hb4, ?_⟩)
  subst hb4
  rw [h]
  simp only [Act.put, Act.eval, List.setIfInBounds_toArray, List.set_cons_succ, List.set_cons_zero, Array.getD_eq_getD_getElem?, List.getElem?_toArray, List.getElem?_cons_succ, List.getElem?_cons_zero, Option.getD_some]
  refine Reg.ord_move rfl _ rfl rfl rfl ?_; simp only [Act.put, Act.eval, List.setIfInBounds_toArray, List.set_cons_succ, List.set_cons_zero, Array.getD_eq_getD_getElem?, List.getElem?_toArray, List.getElem?_cons_succ, List.getElem?_cons_zero, Option.getD_some]
  repeat (first | (refine Reg.ord_skip rfl rfl rfl ?_; simp only [Act.put, Act.eval, List.setIfInBounds_toArray, List.set_cons_succ, List.set_cons_zero, Array.getD_eq_getD_getElem?, List.getElem?_toArray, List.getElem?_cons_succ, List.getElem?_cons_zero, Option.getD_some]) | (refine ord_skip0 rfl rfl rfl ?_; simp only [Act.put, Act.eval, List.setIfInBounds_toArray, List.set_cons_succ, List.set_cons_zero, Array.getD_eq_getD_getElem?, List.getElem?_toArray, List.getElem?_cons_succ, List.getElem?_cons_zero, Option.getD_some]))
  refine Reg.ord_pick rfl _ _ _ rfl rfl rfl false rfl ?_; simp only [Act.put, Act.eval, List.setIfInBounds_toArray, List.set_cons_succ, List.set_cons_zero, Array.getD_eq_getD_getElem?, List.getElem?_toArray, List.getElem?_cons_succ, List.getElem?_cons_zero, Option.getD_some]
  refine Reg.ord_move rfl _ rfl rfl rfl ?_; simp only [Act.put, Act.eval, List.setIfInBounds_toArray, List.set_cons_succ, List.set_cons_zero, Array.getD_eq_getD_getElem?, List.getElem?_toArray, List.getElem?_cons_succ, List.getElem?_cons_zero, Option.getD_some]
  repeat (first | (refine Reg.ord_skip rfl rfl rfl ?_; simp only [Act.put, Act.eval, List.setIfInBounds_toArray, List.set_cons_succ, List.set_cons_zero, Array.getD_eq_getD_getElem?, List.getElem?_toArray, List.getElem?_cons_succ, List.getElem?_cons_zero, Option.getD_some]) | (refine ord_skip0 rfl rfl rfl ?_; simp only [Act.put, Act.eval, List.setIfInBounds_toArray, List.set_cons_succ, List.set_cons_zero, Array.getD_eq_getD_getElem?, List.getElem?_toArray, List.getElem?_cons_succ, List.getElem?_cons_zero, Option.getD_some]))
  refine Reg.ord_pick rfl _ _ _ rfl rfl rfl false (by simp [Act.eval]) ?_; simp only [Act.put, Act.eval, List.setIfInBounds_toArray, List.set_cons_succ, List.set_cons_zero, Array.getD_eq_getD_getElem?, List.getElem?_toArray, List.getElem?_cons_succ, List.getElem?_cons_zero, Option.getD_some]
  refine Reg.ord_assign rfl _ rfl rfl rfl ?_; simp only [Act.put, Act.eval, List.setIfInBounds_toArray, List.set_cons_succ, List.set_cons_zero, Array.getD_eq_getD_getElem?, List.getElem?_toArray, List.getElem?_cons_succ, List.getElem?_cons_zero, Option.getD_some]
  refine Reg.ord_nil ?_
  go_wp2
  exact ret_tmp rfl _ rfl rfl ⟨rfl, hb⟩
theorem worth_B (a : Option Addr) (l : List Fr) (c : Nat) (i j : Int) (w : World) (hi : isIn i l.length = true) (hj : isIn j l.length = false) :
    Calls Try.prog 12 #[.slice a l.length c, .int .i64 i, .int .i64 j] w fun e w' => e = .returned (.bool false) ∧ Below w.heap.size w w' := by
  go_enter Try.func12, Try.ntmps12
  go_wp2_with fail
  have hc : (w.alloc (.cells #[.slice a l.length c] 25)).drew.cell? ⟨w.heap.size, 0, none⟩ = some (.slice a l.length c) := by
    show (w.alloc (.cells #[.slice a l.length c] 25)).cell? _ = _
    rw [cell_of_row _ _ _ _ _ _ (heap_alloc_new w _)]; rfl
  have hb := (below_alloc w (.cells #[.slice a l.length c] 25)).drew
  refine Reg.region_ord (S := fun w' => w' = (w.alloc (.cells #[.slice a l.length c] 25)).drew) [(0, 1), (1, 1), (2, 0), (3, 1), (4, 1), (5, 1), (6, 0), (7, 1), (8, 1), (9, 1), (10, 1), (11, 1), (12, 1), (13, 1), (14, 1), (15, 1), (16, 1), (17, 1), (18, 0), (19, 1), (20, 1), (21, 1)] (by kernel_rfl) (by kernel_rfl) (by decide) (by kernel_rfl) (fun _ _ _ _ _ h => h) ?_
  generalize (w.alloc (.cells #[.slice a l.length c] 25)).drew = W at *
  repeat (refine Reg.ord_move rfl _ rfl rfl rfl ?_; simp only [Act.put, Act.eval, List.setIfInBounds_toArray, List.set_cons_succ, List.set_cons_zero, Array.getD_eq_getD_getElem?, List.getElem?_toArray, List.getElem?_cons_succ, List.getElem?_cons_zero, Option.getD_some])
  refine Reg.ord_call rfl rfl 19 #[.int .i64 i, .pointer (some ⟨w.heap.size, 0, none⟩)] (by go_simp) (in_any _ _ _ _ i _ hc) (fun W4 hb4 => ⟨hb4, ?_⟩)
  subst hb4
  rw [hi]
  simp only [Act.put, Act.eval, List.setIfInBounds_toArray, List.set_cons_succ, List.set_cons_zero, Array.getD_eq_getD_getElem?, List.getElem?_toArray, List.getElem?_cons_succ, List.getElem?_cons_zero, Option.getD_some]
  repeat (refine Reg.ord_move rfl _ rfl rfl rfl ?_; simp only [Act.put, Act.eval, List.setIfInBounds_toArray, List.set_cons_succ, List.set_cons_zero, Array.getD_eq_getD_getElem?, List.getElem?_toArray, List.getElem?_cons_succ, List.getElem?_cons_zero, Option.getD_some])
  refine Reg.ord_call rfl rfl 19 #[.int .i64 j, .pointer (some ⟨w.heap.size, 0, none⟩)] (by go_simp) (in_any _ _ _ _ j _ hc) (fun W4 hb4 => ⟨hb4, ?_⟩)
  subst hb4
  rw [hj]
  simp only [Act.put, Act.eval, List.setIfInBounds_toArray, List.set_cons_succ, List.set_cons_zero, Array.getD_eq_getD_getElem?, List.getElem?_toArray, List.getElem?_cons_succ, List.getElem?_cons_zero, Option.getD_some]
  refine Reg.ord_pick rfl _ _ _ rfl rfl rfl true (by simp [Act.eval]) ?_; simp only [Act.put, Act.eval, List.setIfInBounds_toArray, List.set_cons_succ, List.set_cons_zero, Array.getD_eq_getD_getElem?, List.getElem?_toArray, List.getElem?_cons_succ, List.getElem?_cons_zero, Option.getD_some]
  refine Reg.ord_move rfl _ rfl rfl rfl ?_; simp only [Act.put, Act.eval, List.setIfInBounds_toArray, List.set_cons_succ, List.set_cons_zero, Array.getD_eq_getD_getElem?, List.getElem?_toArray, List.getElem?_cons_succ, List.getElem?_cons_zero, Option.getD_some]
  repeat (first | (refine Reg.ord_skip rfl rfl rfl ?_; simp only [Act.put, Act.eval, List.setIfInBounds_toArray, List.set_cons_succ, List.set_cons_zero, Array.getD_eq_getD_getElem?, List.getElem?_toArray, List.getElem?_cons_succ, List.getElem?_cons_zero, Option.getD_some]) | (refine ord_skip0 rfl rfl rfl ?_; simp only [Act.put, Act.eval, List.setIfInBounds_toArray, List.set_cons_succ, List.set_cons_zero, Array.getD_eq_getD_getElem?, List.getElem?_toArray, List.getElem?_cons_succ, List.getElem?_cons_zero, Option.getD_some]))
  refine Reg.ord_pick rfl _ _ _ rfl rfl rfl false (by simp [Act.eval]) ?_; simp only [Act.put, Act.eval, List.setIfInBounds_toArray, List.set_cons_succ, List.set_cons_zero, Array.getD_eq_getD_getElem?, List.getElem?_toArray, List.getElem?_cons_succ, List.getElem?_cons_zero, Option.getD_some]
  refine Reg.ord_assign rfl _ rfl rfl rfl ?_; simp only [Act.put, Act.eval, List.setIfInBounds_toArray, List.set_cons_succ, List.set_cons_zero, Array.getD_eq_getD_getElem?, List.getElem?_toArray, List.getElem?_cons_succ, List.getElem?_cons_zero, Option.getD_some]
  refine Reg.ord_nil ?_
  go_wp2
  exact ret_tmp rfl _ rfl rfl ⟨rfl, hb⟩
theorem run_load_s {w : World} {b k : Nat} {v : Value} {ρ : Operand → Value} {o : Oper} (x : Operand) (ho : o.op = .load 25 x) (hx : ρ x = .pointer (some ⟨b, k, none⟩)) (hc : w.cell? ⟨b, k, none⟩ = some v) :
    (execOp ρ o).run Try.prog w = .ok (.value v) w := by
  have hagg : (isAgg 25).run Try.prog w = .ok false w := by kernel_rfl
  unfold execOp
  simp [ho, hx, go_sem, Instr.loadAt, Instr.sureAddr, loadVar, Sem.run_bind, hagg, hc]
set_option maxHeartbeats 1000000 in
theorem worth_C (b o c : Nat) (l : List Fr) (hok : ∀ p ∈ l, p.ok) (i j : Nat) (w : World) (_hm : l.length ≤ maxLen) (hs : CsAt w b o l) (hil : i < l.length) (hjl : j < l.length) :
    Calls Try.prog 12 #[.slice (some ⟨b, o, none⟩) l.length c, .int .i64 i, .int .i64 j] w fun e w' => e = .returned (.bool (decide (0 < ful l[i].1 l[i].2 (l[j].1 + 1) l[j].2))) ∧ Below w.heap.size w w' := by
  unfold maxLen at _hm
  have hi : isIn (i : Int) l.length = true := by simp [isIn, hil]
  have hj : isIn (j : Int) l.length = true := by simp [isIn, hjl]
  obtain ⟨vi, hci, ai, bi, rfl, hai, hbi⟩ := hs i hil
  obtain ⟨vj, hcj, aj, bj, rfl, haj, hbj⟩ := hs j hjl
  have oki : Fr.ok _ := hok _ (List.getElem_mem hil)
  have okj : Fr.ok _ := hok _ (List.getElem_mem hjl)
  obtain ⟨rj, ij, hsj, hrj, hij⟩ := isC_up haj hbj (Fr.small1 okj) (Fr.small2 okj)
  have hf := fun W => fuller_any hai hbi hrj hij (Fr.small1 oki) (Fr.small2 oki) (Fr.smallUp okj) (Fr.small2 okj) W
  generalize ful l[i].1 l[i].2 (l[j].1 + 1) l[j].2 = f at *
  clear hai hbi haj hbj oki okj hrj hij hok
  have hc1 : (w.alloc (.cells #[.slice (some ⟨b, o, none⟩) l.length c] 25)).drew.cell? ⟨b, o + i, none⟩ = some (.complex .f64 ai bi) := by
    rw [((below_alloc w (.cells #[.slice (some ⟨b, o, none⟩) l.length c] 25)).drew).cell (World.block_lt_of_cell? _ _ hci)]; exact hci
  have hc2 : (w.alloc (.cells #[.slice (some ⟨b, o, none⟩) l.length c] 25)).drew.cell? ⟨b, o + j, none⟩ = some (.complex .f64 aj bj) := by
    rw [((below_alloc w (.cells #[.slice (some ⟨b, o, none⟩) l.length c] 25)).drew).cell (World.block_lt_of_cell? _ _ hcj)]; exact hcj
  go_enter Try.func12, Try.ntmps12
  go_wp2_with fail
  have hc : (w.alloc (.cells #[.slice (some ⟨b, o, none⟩) l.length c] 25)).drew.cell? ⟨w.heap.size, 0, none⟩ = some (.slice (some ⟨b, o, none⟩) l.length c) := by
    show (w.alloc (.cells #[.slice (some ⟨b, o, none⟩) l.length c] 25)).cell? _ = _
    rw [cell_of_row _ _ _ _ _ _ (heap_alloc_new w _)]; rfl
  have hb := (below_alloc w (.cells #[.slice (some ⟨b, o, none⟩) l.length c] 25)).drew
  refine Reg.region_ord (S := fun w' => w' = (w.alloc (.cells #[.slice (some ⟨b, o, none⟩) l.length c] 25)).drew) [(0, 1), (1, 1), (2, 0), (3, 1), (4, 1), (5, 1), (6, 0), (7, 1), (8, 1), (9, 1), (10, 1), (11, 1), (12, 1), (13, 1), (14, 1), (15, 1), (16, 1), (17, 1), (18, 0), (19, 1), (20, 1), (21, 1)] (by kernel_rfl) (by kernel_rfl) (by decide) (by kernel_rfl) (fun _ _ _ _ _ h => h) ?_
  generalize (w.alloc (.cells #[.slice (some ⟨b, o, none⟩) l.length c] 25)).drew = W at *
  repeat (refine Reg.ord_move rfl _ rfl rfl rfl ?_; simp only [Act.put, Act.eval, List.setIfInBounds_toArray, List.set_cons_succ, List.set_cons_zero, Array.getD_eq_getD_getElem?, List.getElem?_toArray, List.getElem?_cons_succ, List.getElem?_cons_zero, Option.getD_some])
  refine Reg.ord_call rfl rfl 19 #[.int .i64 i, .pointer (some ⟨w.heap.size, 0, none⟩)] (by go_simp) (in_any _ _ _ _ i _ hc) (fun W4 hb4 => ⟨hb4, ?_⟩)
  subst hb4
  rw [hi]
  simp only [Act.put, Act.eval, List.setIfInBounds_toArray, List.set_cons_succ, List.set_cons_zero, Array.getD_eq_getD_getElem?, List.getElem?_toArray, List.getElem?_cons_succ, List.getElem?_cons_zero, Option.getD_some]
  repeat (refine Reg.ord_move rfl _ rfl rfl rfl ?_; simp only [Act.put, Act.eval, List.setIfInBounds_toArray, List.set_cons_succ, List.set_cons_zero, Array.getD_eq_getD_getElem?, List.getElem?_toArray, List.getElem?_cons_succ, List.getElem?_cons_zero, Option.getD_some])
  refine Reg.ord_call rfl rfl 19 #[.int .i64 j, .pointer (some ⟨w.heap.size, 0, none⟩)] (by go_simp) (in_any _ _ _ _ j _ hc) (fun W4 hb4 => ⟨hb4, ?_⟩)
  subst hb4
  rw [hj]
  simp only [Act.put, Act.eval, List.setIfInBounds_toArray, List.set_cons_succ, List.set_cons_zero, Array.getD_eq_getD_getElem?, List.getElem?_toArray, List.getElem?_cons_succ, List.getElem?_cons_zero, Option.getD_some]
  refine Reg.ord_pick rfl _ _ _ rfl rfl rfl true (by simp [Act.eval]) ?_; simp only [Act.put, Act.eval, List.setIfInBounds_toArray, List.set_cons_succ, List.set_cons_zero, Array.getD_eq_getD_getElem?, List.getElem?_toArray, List.getElem?_cons_succ, List.getElem?_cons_zero, Option.getD_some]
  refine Reg.ord_move rfl _ rfl rfl rfl ?_; simp only [Act.put, Act.eval, List.setIfInBounds_toArray, List.set_cons_succ, List.set_cons_zero, Array.getD_eq_getD_getElem?, List.getElem?_toArray, List.getElem?_cons_succ, List.getElem?_cons_zero, Option.getD_some]
  refine Reg.ord_val rfl rfl rfl (.slice (some ⟨b, o, none⟩) l.length c) (fun w' h => by subst h; exact run_load_s _ rfl (by simp [Act.eval]) hc) ?_; simp only [Act.put, Act.eval, List.setIfInBounds_toArray, List.set_cons_succ, List.set_cons_zero, Array.getD_eq_getD_getElem?, List.getElem?_toArray, List.getElem?_cons_succ, List.getElem?_cons_zero, Option.getD_some]
  refine Reg.ord_move rfl _ rfl rfl rfl ?_; simp only [Act.put, Act.eval, List.setIfInBounds_toArray, List.set_cons_succ, List.set_cons_zero, Array.getD_eq_getD_getElem?, List.getElem?_toArray, List.getElem?_cons_succ, List.getElem?_cons_zero, Option.getD_some]
  refine Reg.ord_val rfl rfl rfl (.pointer (some ⟨b, o + i, none⟩)) (fun w' _ => by go_simp) ?_; simp only [Act.put, Act.eval, List.setIfInBounds_toArray, List.set_cons_succ, List.set_cons_zero, Array.getD_eq_getD_getElem?, List.getElem?_toArray, List.getElem?_cons_succ, List.getElem?_cons_zero, Option.getD_some]
  refine Reg.ord_val rfl rfl rfl (.complex .f64 ai bi) (fun w' h => by subst h; exact run_load_c _ rfl (by simp [Act.eval]) hc1) ?_; simp only [Act.put, Act.eval, List.setIfInBounds_toArray, List.set_cons_succ, List.set_cons_zero, Array.getD_eq_getD_getElem?, List.getElem?_toArray, List.getElem?_cons_succ, List.getElem?_cons_zero, Option.getD_some]
  refine Reg.ord_val rfl rfl rfl (.slice (some ⟨b, o, none⟩) l.length c) (fun w' h => by subst h; exact run_load_s _ rfl (by simp [Act.eval]) hc) ?_; simp only [Act.put, Act.eval, List.setIfInBounds_toArray, List.set_cons_succ, List.set_cons_zero, Array.getD_eq_getD_getElem?, List.getElem?_toArray, List.getElem?_cons_succ, List.getElem?_cons_zero, Option.getD_some]
  refine Reg.ord_move rfl _ rfl rfl rfl ?_; simp only [Act.put, Act.eval, List.setIfInBounds_toArray, List.set_cons_succ, List.set_cons_zero, Array.getD_eq_getD_getElem?, List.getElem?_toArray, List.getElem?_cons_succ, List.getElem?_cons_zero, Option.getD_some]
  refine Reg.ord_val rfl rfl rfl (.pointer (some ⟨b, o + j, none⟩)) (fun w' _ => by go_simp) ?_; simp only [Act.put, Act.eval, List.setIfInBounds_toArray, List.set_cons_succ, List.set_cons_zero, Array.getD_eq_getD_getElem?, List.getElem?_toArray, List.getElem?_cons_succ, List.getElem?_cons_zero, Option.getD_some]
  refine Reg.ord_val rfl rfl rfl (.complex .f64 aj bj) (fun w' h => by subst h; exact run_load_c _ rfl (by simp [Act.eval]) hc2) ?_; simp only [Act.put, Act.eval, List.setIfInBounds_toArray, List.set_cons_succ, List.set_cons_zero, Array.getD_eq_getD_getElem?, List.getElem?_toArray, List.getElem?_cons_succ, List.getElem?_cons_zero, Option.getD_some]
  refine Reg.ord_val rfl rfl rfl (.complex .f64 rj ij) (fun w' h => run_add_c _ _ rfl (by simp [Act.eval]) (by simp [Act.eval]) hsj) ?_; simp only [Act.put, Act.eval, List.setIfInBounds_toArray, List.set_cons_succ, List.set_cons_zero, Array.getD_eq_getD_getElem?, List.getElem?_toArray, List.getElem?_cons_succ, List.getElem?_cons_zero, Option.getD_some]
  refine Reg.ord_call rfl rfl 11 _ (by go_simp) (hf _) (fun W4 hb4 => ⟨hb4, ?_⟩)
  subst hb4
  simp only [Act.put, Act.eval, List.setIfInBounds_toArray, List.set_cons_succ, List.set_cons_zero, Array.getD_eq_getD_getElem?, List.getElem?_toArray, List.getElem?_cons_succ, List.getElem?_cons_zero, Option.getD_some]
  refine Reg.ord_val rfl rfl rfl (.bool (decide (0 < f))) (fun w' _ => by go_simp) ?_; simp only [Act.put, Act.eval, List.setIfInBounds_toArray, List.set_cons_succ, List.set_cons_zero, Array.getD_eq_getD_getElem?, List.getElem?_toArray, List.getElem?_cons_succ, List.getElem?_cons_zero, Option.getD_some]
  refine Reg.ord_pick rfl _ _ _ rfl rfl rfl true (by simp [Act.eval]) ?_; simp only [Act.put, Act.eval, List.setIfInBounds_toArray, List.set_cons_succ, List.set_cons_zero, Array.getD_eq_getD_getElem?, List.getElem?_toArray, List.getElem?_cons_succ, List.getElem?_cons_zero, Option.getD_some]
  refine Reg.ord_assign rfl _ rfl rfl rfl ?_; simp only [Act.put, Act.eval, List.setIfInBounds_toArray, List.set_cons_succ, List.set_cons_zero, Array.getD_eq_getD_getElem?, List.getElem?_toArray, List.getElem?_cons_succ, List.getElem?_cons_zero, Option.getD_some]
  refine Reg.ord_nil ?_
  go_wp2
  exact ret_tmp rfl _ rfl rfl ⟨rfl, hb⟩
theorem worth_any (v : Value) (l : List Fr) (hok : ∀ p ∈ l, p.ok) (i j : Int) (w : World) (hs : IsCs w v l) :
    Calls Try.prog 12 #[v, .int .i64 i, .int .i64 j] w fun e w' => e = .returned (.bool (worthB l i j)) ∧ Below w.heap.size w w' := by
  cases hi : isIn i l.length with
  | false =>
    rw [worthB, hi, Bool.false_and]
    rcases hs with ⟨a, c, rfl, _, rfl⟩ | ⟨b, o, c, rfl, hne, hm, _, hs⟩
    · exact worth_A a [] c i j w hi
    · exact worth_A _ l c i j w hi
  | true =>
    rw [worthB, hi, Bool.true_and]
    cases hj : isIn j l.length with
    | false =>
      rw [Bool.false_and]
      rcases hs with ⟨a, c, rfl, _, rfl⟩ | ⟨b, o, c, rfl, hne, hm, _, hs⟩
      · exact worth_B a [] c i j w hi hj
      · exact worth_B _ l c i j w hi hj
    | true =>
      rw [Bool.true_and]
      have h1 : 0 ≤ i ∧ i < l.length := by simpa [isIn] using hi
      have h2 : 0 ≤ j ∧ j < l.length := by simpa [isIn] using hj
      rcases hs with ⟨a, c, rfl, _, rfl⟩ | ⟨b, o, c, rfl, hne, hm, _, hs⟩
      · rw [List.length_nil] at h1; omega
      · obtain ⟨m, rfl⟩ := Int.eq_ofNat_of_zero_le h1.1
        obtain ⟨n, rfl⟩ := Int.eq_ofNat_of_zero_le h2.1
        have k1 : m < l.length := by omega
        have k2 : n < l.length := by omega
        have h := worth_C b o c l hok m n w hm hs k1 k2
        have e1 : l.getD m (0, 1) = l[m] := by simp [List.getD_eq_getElem?_getD, k1]
        have e2 : l.getD n (0, 1) = l[n] := by simp [List.getD_eq_getElem?_getD, k2]
        rw [Int.toNat_natCast, Int.toNat_natCast, e1, e2]
        exact h
end Go.Proofs.Ytgmpekkoffkphaa
