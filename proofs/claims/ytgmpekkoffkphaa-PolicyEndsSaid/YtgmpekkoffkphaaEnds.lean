/- PolicyEnds: balancing has an end, and then all are as even as one extent lets them be. The statement holds as it stands: no condition. -/
import Derived.Test.YtgmpekkoffkphaaOwn2
namespace Go.Proofs.Ytgmpekkoffkphaa.ends
open Go.RowKit Go.ChangeShapes Go.WideShapes Go.ChangeAt flt
set_option linter.unusedSimpArgs false

theorem form {w : World} {v : Value} {K : List Fr} (h : IsPs w v K) : ∃ a c, v = .slice a K.length c ∧ K.length ≤ maxLen := by
  rcases h with ⟨a, c, rfl, _, rfl⟩ | ⟨b, o, c, rfl, _, hm, _⟩
  · exact ⟨a, c, rfl, by simp⟩
  · exact ⟨_, c, rfl, hm⟩
theorem cells_at {w : World} {a : Option Addr} {c : Nat} {K : List Fr} (h : IsPs w (.slice a K.length c) K) (hp : 0 < K.length) : ∃ b o, a = some ⟨b, o, none⟩ ∧ PsAt w b o K := by
  rcases h with ⟨a, c, _, _, rfl⟩ | ⟨b, o, c, e, _, _, _, hs⟩
  · simp at hp
  · simp only [Value.slice.injEq] at e
    exact ⟨b, o, e.1, hs⟩
def iniF (q : Fr) : Fr := ((((q.1 % ((2 ^ 16 : Nat) : Int)).toNat % (1 + (q.2 % ((2 ^ 5 : Nat) : Int)).toNat + 1) : Nat) : Int), ((1 + (q.2 % ((2 ^ 5 : Nat) : Int)).toNat : Nat) : Int))
theorem iniF_ok (q : Fr) : okE (iniF q) := by
  have h1 : (q.2 % ((2 ^ 5 : Nat) : Int)).toNat < 32 := by omega
  unfold iniF okE
  have h2 := Nat.mod_lt (q.1 % ((2 ^ 16 : Nat) : Int)).toNat (show 0 < 1 + (q.2 % ((2 ^ 5 : Nat) : Int)).toNat + 1 by omega)
  simp only
  omega
def ini (K : List Fr) (k : Nat) : List Fr := (K.take k).map iniF
theorem ini_succ (K : List Fr) (k : Nat) (h : k < K.length) : ini K (k + 1) = ini K k ++ [iniF K[k]] := by
  rw [ini, ini, List.take_succ_eq_append_getElem h, List.map_append]; rfl
theorem ini_ok (K : List Fr) (k : Nat) : ∀ p ∈ ini K k, okE p := by
  intro p hp
  obtain ⟨q, _, rfl⟩ := List.mem_map.1 hp
  exact iniF_ok q
theorem sumU_append : ∀ l m : List Fr, sumU (l ++ m) = sumU l + sumU m
  | [], m => by simp [sumU]
  | p :: l, m => by simp only [List.cons_append, sumU, sumU_append l m]; omega
theorem sumU_bound : ∀ l : List Fr, (∀ p ∈ l, okE p) → 0 ≤ sumU l ∧ sumU l ≤ 32 * l.length
  | [], _ => ⟨Int.le_refl _, Int.le_refl _⟩
  | p :: l, h => by
    have ih := sumU_bound l (fun q hq => h q (List.mem_cons_of_mem _ hq))
    obtain ⟨h1, h2, h3, h4⟩ := h p List.mem_cons_self
    simp only [sumU, List.length_cons]
    omega
theorem frs_self {l : List Fr} (h : ∀ p ∈ l, okE p) (hl : l.length ≤ 40) : frs l (min l.length 40) = l := by
  rw [frs, Nat.min_eq_left hl, List.take_length]
  refine (List.map_congr_left fun p hp => ?_).trans (List.map_id l)
  obtain ⟨h1, h2, h3, h4⟩ := h p hp
  have hd : den p.2 = p.2 := by unfold den; repeat' split <;> omega
  have hn : num p.1 p.2 = p.1 := by unfold num; rw [hd]; repeat' split <;> omega
  rw [hd, hn]; rfl
theorem pot_start : ∀ l : List Fr, pot l (List.replicate l.length false) = sumU l
  | [] => rfl
  | p :: l => by
    rw [List.length_cons, List.replicate_succ]
    simp only [pot, sumU, pot_start l]
    simp
theorem inv_start {l : List Fr} (h : ∀ p ∈ l, okE p) : Inv l (List.replicate l.length false) (sumU l) 0 :=
  ⟨by simp, h, rfl, Int.le_refl _, by rw [pot_start]; omega, fun i _ hi => by rw [List.getD_eq_getElem?_getD, List.getElem?_replicate] at hi; split at hi <;> simp at hi⟩

theorem run_lss_op {m n : Int} {ρ : Operand → Value} {o : Oper} {x y : Operand} {w : World} (ho : o.op = .binOp .lss 3 x y 3) (hx : ρ x = .int .i64 m) (hy : ρ y = .int .i64 n) :
    (execOp ρ o).run Try.prog w = .ok (.value (.bool (decide (m < n)))) w := by
  unfold execOp
  have hg : (eqGuard .lss 3 x y (.int .i64 m) (.int .i64 n)).run Try.prog w = .ok () w := rfl
  have hr : (binOp .lss 3 (.int .i64 m) (.int .i64 n)).run Try.prog w = .ok (.bool (decide (m < n))) w := by simp [go_sem]
  simp only [ho, hx, hy, Sem.run_bind, hg, hr, Result.andThen_ok, Sem.run_pure]
theorem run_gtr_op {m n : Int} {ρ : Operand → Value} {o : Oper} {x y : Operand} {w : World} (ho : o.op = .binOp .gtr 3 x y 3) (hx : ρ x = .int .i64 m) (hy : ρ y = .int .i64 n) :
    (execOp ρ o).run Try.prog w = .ok (.value (.bool (decide (n < m)))) w := by
  unfold execOp
  have hg : (eqGuard .gtr 3 x y (.int .i64 m) (.int .i64 n)).run Try.prog w = .ok () w := rfl
  have hr : (binOp .gtr 3 (.int .i64 m) (.int .i64 n)).run Try.prog w = .ok (.bool (decide (n < m))) w := by simp [go_sem]
  simp only [ho, hx, hy, Sem.run_bind, hg, hr, Result.andThen_ok, Sem.run_pure]
theorem run_mul_op {m n : Int} {ρ : Operand → Value} {o : Oper} {x y : Operand} {w : World} (ho : o.op = .binOp .mul 3 x y 3) (hx : ρ x = .int .i64 m) (hy : ρ y = .int .i64 n) (hb : 0 ≤ m * n ∧ m * n ≤ 10000) :
    (execOp ρ o).run Try.prog w = .ok (.value (.int .i64 (m * n))) w := by
  unfold execOp
  have hg : (eqGuard .mul 3 x y (.int .i64 m) (.int .i64 n)).run Try.prog w = .ok () w := rfl
  have hi : IntKind.i64.wrap (m * n) = m * n := IntWalk.i64_in _ (by omega)
  have hr : (binOp .mul 3 (.int .i64 m) (.int .i64 n)).run Try.prog w = .ok (.int .i64 (m * n)) w := by simp [binOp, Op.intArith, hi, go_sem]
  simp only [ho, hx, hy, Sem.run_bind, hg, hr, Result.andThen_ok, Sem.run_pure]
theorem worth_is (l : List Fr) (x y : Nat) (hx : x < l.length) (hy : y < l.length) : worthB l x y = decide (0 < ful (at0 l x).1 (at0 l x).2 ((at0 l y).1 + 1) (at0 l y).2) := by
  have h1 : isIn (x : Int) l.length = true := by simp [isIn, hx]
  have h2 : isIn (y : Int) l.length = true := by simp [isIn, hy]
  unfold worthB
  rw [h1, h2, Bool.true_and, Bool.true_and]
  rfl
theorem own_form {w : World} {base e s : Nat} {v : Value} {n : Nat} {xs : List Value} (h : w.ownsRow base e s v n xs) (hn : 0 < n) : ∃ g c, v = .slice (some ⟨g, 0, none⟩) n c ∧ base ≤ g := by
  rcases own_at h with ⟨_, h0⟩ | ⟨g, c, cur, rfl, hb, _⟩
  · omega
  · exact ⟨g, c, rfl, hb⟩
set_option maxRecDepth 100000 in
set_option maxHeartbeats 4000000 in
theorem walk (v : Value) (K : List Fr) (w : World) (hs : IsPs w v K) :
    Calls Try.prog 7 #[v] w fun e w' => e = .returned (.bool true) ∧ Below w.heap.size w w' := by
  obtain ⟨a, c, rfl, hm⟩ := form hs
  unfold maxLen at hm
  go_enter Try.func7, Try.ntmps7
  go_wp2_with fail
  refine (shown_any _).mono ?_
  rintro e W6 ⟨rfl, hst6⟩
  have hbase : w.heap.size ≤ W6.heap.size := hst6.size
  go_wp2_with fail
  by_cases hK : K.length = 0
  · obtain rfl : K = [] := List.eq_nil_of_length_eq_zero hK
    clear hK
    refine wp_loop_rounds 1 ?_
    rw [rounds_succ]
    go_wp2_with fail
    refine wp_loop_rounds 1 ?_
    rw [rounds_succ]
    go_wp2_with fail
    refine (both_any _ [] _ (.inl ⟨_, _, rfl, fun _ => rfl, rfl⟩)).mono ?_
    rintro e W8 ⟨va, vb, rfl, hox, _, hb8⟩
    have hcs : IsCs W8 va [] := hox.isCs
    have hst8 := hst6.trans (hb8.mono hst6.size)
    clear hox hb8 hst6
    go_wp2_with fail
    refine (spread_any _ [] (fun _ h => absurd h List.not_mem_nil) _ hcs).mono ?_
    rintro e W9 ⟨rfl, hb9⟩
    have hst9 := hst8.trans (hb9.mono hst8.size)
    clear hb9 hst8
    rw [show decide (0 < ([] : List Fr).length) = false from rfl]
    go_wp2_with fail
    refine wp_loop_rounds 1 ?_
    rw [rounds_succ]
    go_wp2
    exact ret_tmp rfl _ rfl rfl ⟨rfl, hst9⟩
  go_loopw [4, 5, 6, 7] (fun p g al i wr => ∃ k : Nat, k ≤ K.length ∧ k ≤ 8 ∧ i = .int .i64 k ∧ OwnQ wr w.heap.size p k (ini K k) ∧ OwnB wr w.heap.size g k (List.replicate k false) ∧ al = .int .i64 (sumU (ini K k)) ∧ Below w.heap.size w wr) (fun _ _ _ i _ => K.length - (intOf i).toNat)
  case atStart => exact ⟨0, by omega, by omega, rfl, ⟨rfl, World.ownsRow_nil _ _ _ _⟩, ⟨rfl, World.ownsRow_nil _ _ _ _⟩, rfl, hst6⟩
  case round =>
    obtain ⟨k, hk, hk8, rfl, hop, hog, rfl, hst⟩ := hrel
    clear hst6
    by_cases hlt : k < K.length ∧ k < 8
    · obtain ⟨hlt, hlt8⟩ := hlt
      obtain ⟨b, o, rfl, hat⟩ := cells_at hs (by omega)
      obtain ⟨c1, c2⟩ := hat k hlt
      replace c1 := Below.at hst c1
      replace c2 := Below.at hst c2
      have hq5 : (K[k].2 % ((2 ^ 5 : Nat) : Int)).toNat < 32 := by omega
      have hini := Lib.hid (ini_succ K k hlt)
      have hdef : iniF K[k] = ((((K[k].1 % ((2 ^ 16 : Nat) : Int)).toNat % (1 + (K[k].2 % ((2 ^ 5 : Nat) : Int)).toNat + 1) : Nat) : Int), ((1 + (K[k].2 % ((2 ^ 5 : Nat) : Int)).toNat : Nat) : Int)) := rfl
      have hsb := sumU_bound _ (ini_ok K k)
      have hil : (ini K k).length = k := by simp [ini]; omega
      rw [hil] at hsb
      have hsum := sumU_append (ini K k) [iniF K[k]]
      have hokk := iniF_ok K[k]
      generalize sumU (ini K k) = A at *
      generalize iniF K[k] = q at *
      generalize K[k].1 = q1 at *
      generalize K[k].2 = q2 at *
      have HQ := Lib.hid hdef
      have HS := Lib.hid hsum
      clear hdef hsum hil
      go_wp2_with (first | (with_reducible refine wl_mask rfl 5 (by omega) _ _ rfl rfl q2 rfl ?_; go_frame; refine stop ?_))
      unfold Stop
      generalize (q2 % ((2 ^ 5 : Nat) : Int)).toNat = m at *
      go_wp2_with (first | (with_reducible refine wl_mask rfl 16 (by omega) _ _ rfl rfl q1 rfl ?_; go_frame; refine stop ?_))
      unfold Stop
      rw [show (1 : Int) + (m : Int) = ((1 + m : Nat) : Int) by omega]
      generalize hn : 1 + m = n at *
      have hn32 : n ≤ 32 := by omega
      clear hn hq5
      generalize (q1 % ((2 ^ 16 : Nat) : Int)).toNat = u at *
      go_wp2_with (first | (refine wl_rem rfl _ _ rfl u (n + 1) rfl rfl (Nat.succ_pos n) ?_; go_frame; refine stop ?_))
      unfold Stop
      have hu := Nat.mod_lt u (Nat.succ_pos n)
      generalize u % (n + 1) = u' at *
      clear c1 c2
      go_wp2_with (first | (at_builtin; refine stop ?_))
      unfold Stop
      have hq1 : q.1 = (u' : Int) := by rw [HQ.out]
      have hq2 : q.2 = (n : Int) := by rw [HQ.out]
      have hb10 := below_alloc wr (.cells #[.int .i64 u', .int .i64 n] 23)
      have hw10 := heap_alloc_new wr (.cells #[.int .i64 u', .int .i64 n] 23)
      have d1 : (wr.alloc (.cells #[.int .i64 u', .int .i64 n] 23)).cell? ⟨wr.heap.size, 0, none⟩ = some (.int .i64 q.1) := by rw [cell_of_row _ _ _ _ _ _ hw10, hq1]; rfl
      have d2 : (wr.alloc (.cells #[.int .i64 u', .int .i64 n] 23)).cell? ⟨wr.heap.size, 1, none⟩ = some (.int .i64 q.2) := by rw [cell_of_row _ _ _ _ _ _ hw10, hq2]; rfl
      replace hop := hop.step hb10
      replace hog := hog.step hb10
      replace hst := hst.trans (hb10.mono hst.size)
      clear hb10 hw10
      generalize wr.alloc (.cells #[.int .i64 u', .int .i64 n] 23) = W10 at *
      refine wl_apQ rfl _ _ rfl w.heap.size k u4 (ini K k) (by simp [Act.eval]) hop wr.heap.size (by simp [Act.eval]) q d1 d2 (by omega) hst.size ?_
      intro v11 W11 hop11 hgr11
      rw [← hini.out] at hop11
      have hog11 : OwnB W11 w.heap.size u5 k (List.replicate k false) := ⟨hog.1, hog.2.kept hgr11 (own_apart hog.2 hop.2 (by decide))⟩
      have hst11 : Below w.heap.size w W11 := hst.grown hgr11 hst.size (fun g hg => (hop.2.lt g hg).1)
      clear hop hog hst hgr11 d1 d2
      go_frame
      go_wp2_with (first | (at_builtin; refine stop ?_))
      unfold Stop
      have hb12 := below_alloc W11 (.cells #[.bool false] 4)
      have hw12 := heap_alloc_new W11 (.cells #[.bool false] 4)
      have d1 : (W11.alloc (.cells #[.bool false] 4)).cell? ⟨W11.heap.size, 0, none⟩ = some (.bool false) := by rw [cell_of_row _ _ _ _ _ _ hw12]; rfl
      replace hop11 := hop11.step hb12
      replace hog11 := hog11.step hb12
      replace hst11 := hst11.trans (hb12.mono hst11.size)
      clear hb12 hw12
      generalize W11.alloc (.cells #[.bool false] 4) = W12 at *
      refine wl_apB rfl _ _ rfl w.heap.size k u5 (List.replicate k false) (by simp [Act.eval]) hog11 W11.heap.size (by simp [Act.eval]) false d1 (by omega) hst11.size ?_
      intro v13 W13 hog13 hgr13
      rw [← List.replicate_succ'] at hog13
      have hop13 : OwnQ W13 w.heap.size v11 (k + 1) (ini K (k + 1)) := ⟨hop11.1, hop11.2.kept hgr13 (own_apart hop11.2 hog11.2 (by decide))⟩
      have hst13 : Below w.heap.size w W13 := hst11.grown hgr13 hst11.size (fun g hg => (hog11.2.lt g hg).1)
      clear hop11 hog11 hst11 hgr13 d1
      go_frame
      have hA : A + (u' : Int) = sumU (ini K (k + 1)) := by
        rw [hini.out, HS.out]
        show A + (u' : Int) = A + (q.1 + 0)
        rw [hq1]; omega
      clear HS HQ hini hokk hq1 hq2
      go_wp2_with fail
      go_roundw
      case rel => exact ⟨k + 1, by omega, by omega, by go_num, hop13, hog13, rfl, hst13⟩
      case measure => simp [intOf]; omega
    · have hk0 : 0 < k := by omega
      obtain ⟨g1, c1, rfl, hg1⟩ := own_form hop.2 hk0
      obtain ⟨g2, c2, rfl, hg2⟩ := own_form hog.2 hk0
      have hg12 : g1 ≠ g2 := by
        rcases own_apart hop.2 hog.2 (by decide) with h | h
        · cases h
        · intro e; subst e; exact h rfl
      have hok0 := ini_ok K k
      have hl0 : (ini K k).length = k := hop.1
      have hsb := sumU_bound _ hok0
      have hinv := inv_start hok0
      rw [hl0] at hsb hinv
      clear hs hok0
      generalize sumU (ini K k) = A at *
      generalize ini K k = l0 at *
      rcases (by omega : ¬ k < K.length ∨ (k < K.length ∧ ¬ k < 8)) with hout | ⟨hout, hout8⟩
      all_goals
        clear hlt
        go_wp2_with fail
        obtain ⟨wo, rfl⟩ : ∃ wo : World, wo = wr := ⟨_, rfl⟩
        go_loopw [10] (fun s wr => ∃ (l : List Fr) (g : List Bool) (n : Nat), s = .int .i64 n ∧ OwnQ wr w.heap.size (.slice (some ⟨g1, 0, none⟩) k c1) k l ∧ OwnB wr w.heap.size (.slice (some ⟨g2, 0, none⟩) k c2) k g ∧ Inv l g A n ∧ Below w.heap.size w wr) (fun s _ => (A - intOf s).toNat)
        case atStart => exact ⟨l0, List.replicate k false, 0, rfl, hop, hog, hinv, hst⟩
        case round =>
          clear hop hog hinv hst hl0 l0
          obtain ⟨l, g, n, rfl, hop, hog, hinv, hst⟩ := hrel
          have HL := Lib.hid hop.1
          have hokF : ∀ p ∈ l, Fr.ok p := fun p hp => (hinv.ok p hp).ok
          go_wp2_with fail
          refine (both_any _ l _ hop.isPs).mono ?_
          rintro e W8 ⟨va, vb, rfl, hox, _, hb8⟩
          rw [frs_self hinv.ok (by rw [HL.out]; omega)] at hox
          have hcs := hox.isCs
          replace hop := hop.step hb8
          replace hog := hog.step hb8
          replace hst := hst.trans (hb8.mono hst.size)
          clear hox hb8
          go_wp2_with fail
          refine (spread_any _ l hokF _ hcs).mono ?_
          rintro e W9 ⟨rfl, hb9⟩
          replace hop := hop.step hb9
          replace hog := hog.step hb9
          replace hst := hst.trans (hb9.mono hst.size)
          replace hcs := hcs.step hb9
          clear hb9
          rw [HL.out, decide_eq_true hk0]
          go_wp2_with fail
          refine (worth_any _ l hokF _ _ _ hcs).mono ?_
          rintro e W10 ⟨rfl, hb10⟩
          replace hop := hop.step hb10
          replace hog := hog.step hb10
          replace hst := hst.trans (hb10.mono hst.size)
          clear hb10 hcs
          have hxl : wrs l k < k := by have := wrs_le l k; omega
          have hyl : bst l k < k := by have := bst_le l k; omega
          have hstep := inv_step hinv
          have hend := even_end hinv.ok
          rw [HL.out] at hstep hend
          rw [worth_is l _ _ (by rw [HL.out]; exact hxl) (by rw [HL.out]; exact hyl)]
          by_cases hwo : 0 < ful (at0 l (wrs l k)).1 (at0 l (wrs l k)).2 ((at0 l (bst l k)).1 + 1) (at0 l (bst l k)).2
          · rw [decide_eq_true hwo]
            obtain ⟨f1, f2, f3, f4, f5, f6⟩ := hstep hxl hyl hwo
            clear hend hstep
            generalize wrs l k = x at *
            generalize bst l k = y at *
            have ox := hinv.ok _ (at0_mem (l := l) (i := x) (by rw [HL.out]; exact hxl))
            have oy := hinv.ok _ (at0_mem (l := l) (i := y) (by rw [HL.out]; exact hyl))
            have b1 : (at0 l x).1 ≤ 32 := by have := ox.2.1; have := ox.2.2.2; omega
            have b2 : 0 ≤ (at0 l y).1 := oy.1
            have b3 : (at0 l y).2 ≤ 32 := oy.2.2.2
            have hcx := (hop.cells x hxl).1
            have hgx := hog.cells x hxl
            rw [f2] at hgx
            have hfx := hop.2.frozenAt (x * 2)
            obtain ⟨hop2, hgr2⟩ := hop.stored x hxl ((at0 l x).1 - 1)
            have hcy2 := (hop2.cells y hyl).1
            have hat := at0_set l x y ((at0 l x).1 - 1, (at0 l x).2) (by rw [HL.out]; exact hxl)
            rw [if_neg (Ne.symm f3)] at hat
            rw [hat] at hcy2
            have hfy2 := hop2.2.frozenAt (y * 2)
            have hog2 : OwnB _ w.heap.size (.slice (some ⟨g2, 0, none⟩) k c2) k g := ⟨hog.1, hog.2.kept hgr2 (own_apart hog.2 hop.2 (by decide))⟩
            obtain ⟨hop3, hgr3⟩ := hop2.stored y hyl ((at0 l y).1 + 1)
            rw [hat] at hop3
            have hop4 : OwnQ _ w.heap.size (.slice (some ⟨g1, 0, none⟩) k c1) k (moved l x y) := hop3
            have hog3 : OwnB _ w.heap.size (.slice (some ⟨g2, 0, none⟩) k c2) k g := ⟨hog2.1, hog2.2.kept hgr3 (own_apart hog2.2 hop2.2 (by decide))⟩
            have hcg3 := hog3.cells y hyl
            have hfg3 := hog3.2.frozenAt y
            obtain ⟨hog4, hgr4⟩ := hog3.stored y true
            have hop5 : OwnQ _ w.heap.size (.slice (some ⟨g1, 0, none⟩) k c1) k (moved l x y) := ⟨hop4.1, hop4.2.kept hgr4 (own_apart hop4.2 hog3.2 (by decide))⟩
            have hst5 : Below w.heap.size w _ := ((hst.grown hgr2 hst.size (fun q hq => by cases hq; exact hg1)).grown hgr3 (by have := hst.size; simp; omega) (fun q hq => by cases hq; exact hg1)).grown hgr4 (by have := hst.size; simp; omega) (fun q hq => by cases hq; exact hg2)
            have hml : moved l x y = (l.set x ((at0 l x).1 - 1, (at0 l x).2)).set y ((at0 l y).1 + 1, (at0 l y).2) := rfl
            have hdx := (hop5.cells x hxl).1
            have hdy := hop5.cells y hyl
            have hatx : at0 (moved l x y) x = ((at0 l x).1 - 1, (at0 l x).2) := by
              rw [hml, at0_set _ y x _ (by rw [List.length_set, HL.out]; exact hyl), if_neg f3, at0_set l x x _ (by rw [HL.out]; exact hxl), if_pos rfl]
            have haty : at0 (moved l x y) y = ((at0 l y).1 + 1, (at0 l y).2) := by
              rw [hml, at0_set _ y y _ (by rw [List.length_set, HL.out]; exact hyl), if_pos rfl]
            rw [hatx] at hdx
            rw [haty] at hdy
            obtain ⟨hdy1, hdy2⟩ := hdy
            simp only at hdx hdy1 hdy2
            clear hinv hwo f2 ox oy hat hml hatx haty hop hop2 hop3 hop4 hog hog2 hog3 hgr2 hgr3 hgr4 hst
            generalize moved l x y = l2 at *
            generalize g.set y true = gg at *
            generalize (at0 l x).1 = ux at *
            generalize (at0 l y).1 = uy at *
            generalize (at0 l y).2 = ny at *
            clear HL hokF
            have F6 := Lib.hid f6
            clear f6
            go_wp2_with (first
              | (refine wl_st rfl size3 _ _ rfl ⟨g1, x * 2, none⟩ (.int .i64 (ux - 1)) _ rfl rfl rfl hcx hfx ?_; generalize W10.setCell ⟨g1, x * 2, none⟩ (.int .i64 (ux - 1)) = W11 at *; clear hcx hfx; go_frame; refine stop ?_))
            unfold Stop
            go_wp2_with (first
              | (refine wl_st rfl size3 _ _ rfl ⟨g1, y * 2, none⟩ (.int .i64 (uy + 1)) _ rfl rfl rfl hcy2 hfy2 ?_; generalize W11.setCell ⟨g1, y * 2, none⟩ (.int .i64 (uy + 1)) = W12 at *; clear hcy2 hfy2; go_frame; refine stop ?_))
            unfold Stop
            go_wp2_with (first
              | (refine wl_st rfl size4 _ _ rfl ⟨g2, y, none⟩ (.bool true) _ rfl rfl rfl hcg3 hfg3 ?_; generalize W12.setCell ⟨g2, y, none⟩ (.bool true) = W13 at *; clear hcg3 hfg3; go_frame; refine stop ?_))
            unfold Stop
            have hn1 : decide (ux - 1 < 0) = false := decide_eq_false (by omega)
            have hn2 : decide (ny < uy + 1) = false := decide_eq_false (by omega)
            have H1 := Lib.hid hn1
            have H2 := Lib.hid hn2
            clear hn1 hn2
            go_wp2_with fail
            replace hdx : W13.drew.cell? ⟨g1, x * 2, none⟩ = some (.int .i64 (ux - 1)) := hdx
            replace hdy1 : W13.drew.cell? ⟨g1, y * 2, none⟩ = some (.int .i64 (uy + 1)) := hdy1
            replace hdy2 : W13.drew.cell? ⟨g1, y * 2 + 1, none⟩ = some (.int .i64 ny) := hdy2
            replace hop5 : OwnQ W13.drew w.heap.size (.slice (some ⟨g1, 0, none⟩) k c1) k l2 := hop5
            replace hog4 : OwnB W13.drew w.heap.size (.slice (some ⟨g2, 0, none⟩) k c2) k gg := hog4
            replace hst5 := hst5.drew
            refine Reg.region_ord (S := fun w' => w' = W13.drew) [(0, 1), (1, 1), (2, 1), (3, 1), (4, 1), (5, 1), (6, 1), (7, 1), (8, 1), (9, 1), (10, 1), (11, 1), (12, 1), (13, 1), (14, 1), (15, 1), (16, 1), (17, 1), (18, 1)] (by kernel_rfl) (by kernel_rfl) (by decide) (by kernel_rfl) (fun _ _ _ _ _ h => h) ?_
            generalize W13.drew = W at *
            refine Reg.ord_move rfl _ rfl rfl rfl ?_; simp only [Act.put, Act.eval, List.setIfInBounds_toArray, List.set_cons_succ, List.set_cons_zero, Array.getD_eq_getD_getElem?, List.getElem?_toArray, List.getElem?_cons_succ, List.getElem?_cons_zero, Option.getD_some]
            refine Reg.ord_move rfl _ rfl rfl rfl ?_; simp only [Act.put, Act.eval, List.setIfInBounds_toArray, List.set_cons_succ, List.set_cons_zero, Array.getD_eq_getD_getElem?, List.getElem?_toArray, List.getElem?_cons_succ, List.getElem?_cons_zero, Option.getD_some]
            refine Reg.ord_val rfl rfl rfl (.pointer (some ⟨g1, x * 2, none⟩)) (fun w' _ => by go_simp) ?_; simp only [Act.put, Act.eval, List.setIfInBounds_toArray, List.set_cons_succ, List.set_cons_zero, Array.getD_eq_getD_getElem?, List.getElem?_toArray, List.getElem?_cons_succ, List.getElem?_cons_zero, Option.getD_some]
            refine Reg.ord_val rfl rfl rfl (.pointer (some ⟨g1, x * 2, none⟩)) (fun w' _ => by go_simp) ?_; simp only [Act.put, Act.eval, List.setIfInBounds_toArray, List.set_cons_succ, List.set_cons_zero, Array.getD_eq_getD_getElem?, List.getElem?_toArray, List.getElem?_cons_succ, List.getElem?_cons_zero, Option.getD_some]
            refine Reg.ord_val rfl rfl rfl (.int .i64 (ux - 1)) (fun w' h => by subst h; exact run_load_i _ rfl (by simp [Act.eval]) hdx) ?_; simp only [Act.put, Act.eval, List.setIfInBounds_toArray, List.set_cons_succ, List.set_cons_zero, Array.getD_eq_getD_getElem?, List.getElem?_toArray, List.getElem?_cons_succ, List.getElem?_cons_zero, Option.getD_some]
            refine Reg.ord_val rfl rfl rfl (.bool (decide (ux - 1 < 0))) (fun w' _ => run_lss_op rfl (by simp [Act.eval] <;> rfl) rfl) ?_; simp only [Act.put, Act.eval, List.setIfInBounds_toArray, List.set_cons_succ, List.set_cons_zero, Array.getD_eq_getD_getElem?, List.getElem?_toArray, List.getElem?_cons_succ, List.getElem?_cons_zero, Option.getD_some]
            rw [H1.out]
            refine Reg.ord_move rfl _ rfl rfl rfl ?_; simp only [Act.put, Act.eval, List.setIfInBounds_toArray, List.set_cons_succ, List.set_cons_zero, Array.getD_eq_getD_getElem?, List.getElem?_toArray, List.getElem?_cons_succ, List.getElem?_cons_zero, Option.getD_some]
            refine Reg.ord_move rfl _ rfl rfl rfl ?_; simp only [Act.put, Act.eval, List.setIfInBounds_toArray, List.set_cons_succ, List.set_cons_zero, Array.getD_eq_getD_getElem?, List.getElem?_toArray, List.getElem?_cons_succ, List.getElem?_cons_zero, Option.getD_some]
            refine Reg.ord_move rfl _ rfl rfl rfl ?_; simp only [Act.put, Act.eval, List.setIfInBounds_toArray, List.set_cons_succ, List.set_cons_zero, Array.getD_eq_getD_getElem?, List.getElem?_toArray, List.getElem?_cons_succ, List.getElem?_cons_zero, Option.getD_some]
            refine Reg.ord_val rfl rfl rfl (.pointer (some ⟨g1, y * 2, none⟩)) (fun w' _ => by go_simp) ?_; simp only [Act.put, Act.eval, List.setIfInBounds_toArray, List.set_cons_succ, List.set_cons_zero, Array.getD_eq_getD_getElem?, List.getElem?_toArray, List.getElem?_cons_succ, List.getElem?_cons_zero, Option.getD_some]
            refine Reg.ord_val rfl rfl rfl (.pointer (some ⟨g1, y * 2, none⟩)) (fun w' _ => by go_simp) ?_; simp only [Act.put, Act.eval, List.setIfInBounds_toArray, List.set_cons_succ, List.set_cons_zero, Array.getD_eq_getD_getElem?, List.getElem?_toArray, List.getElem?_cons_succ, List.getElem?_cons_zero, Option.getD_some]
            refine Reg.ord_val rfl rfl rfl (.int .i64 (uy + 1)) (fun w' h => by subst h; exact run_load_i _ rfl (by simp [Act.eval]) hdy1) ?_; simp only [Act.put, Act.eval, List.setIfInBounds_toArray, List.set_cons_succ, List.set_cons_zero, Array.getD_eq_getD_getElem?, List.getElem?_toArray, List.getElem?_cons_succ, List.getElem?_cons_zero, Option.getD_some]
            refine Reg.ord_move rfl _ rfl rfl rfl ?_; simp only [Act.put, Act.eval, List.setIfInBounds_toArray, List.set_cons_succ, List.set_cons_zero, Array.getD_eq_getD_getElem?, List.getElem?_toArray, List.getElem?_cons_succ, List.getElem?_cons_zero, Option.getD_some]
            refine Reg.ord_move rfl _ rfl rfl rfl ?_; simp only [Act.put, Act.eval, List.setIfInBounds_toArray, List.set_cons_succ, List.set_cons_zero, Array.getD_eq_getD_getElem?, List.getElem?_toArray, List.getElem?_cons_succ, List.getElem?_cons_zero, Option.getD_some]
            refine Reg.ord_val rfl rfl rfl (.pointer (some ⟨g1, y * 2, none⟩)) (fun w' _ => by go_simp) ?_; simp only [Act.put, Act.eval, List.setIfInBounds_toArray, List.set_cons_succ, List.set_cons_zero, Array.getD_eq_getD_getElem?, List.getElem?_toArray, List.getElem?_cons_succ, List.getElem?_cons_zero, Option.getD_some]
            refine Reg.ord_val rfl rfl rfl (.pointer (some ⟨g1, y * 2 + 1, none⟩)) (fun w' _ => by go_simp) ?_; simp only [Act.put, Act.eval, List.setIfInBounds_toArray, List.set_cons_succ, List.set_cons_zero, Array.getD_eq_getD_getElem?, List.getElem?_toArray, List.getElem?_cons_succ, List.getElem?_cons_zero, Option.getD_some]
            refine Reg.ord_val rfl rfl rfl (.int .i64 ny) (fun w' h => by subst h; exact run_load_i _ rfl (by simp [Act.eval]) hdy2) ?_; simp only [Act.put, Act.eval, List.setIfInBounds_toArray, List.set_cons_succ, List.set_cons_zero, Array.getD_eq_getD_getElem?, List.getElem?_toArray, List.getElem?_cons_succ, List.getElem?_cons_zero, Option.getD_some]
            refine Reg.ord_val rfl rfl rfl (.bool (decide (ny < uy + 1))) (fun w' _ => run_gtr_op rfl (by simp [Act.eval] <;> rfl) (by simp [Act.eval] <;> rfl)) ?_; simp only [Act.put, Act.eval, List.setIfInBounds_toArray, List.set_cons_succ, List.set_cons_zero, Array.getD_eq_getD_getElem?, List.getElem?_toArray, List.getElem?_cons_succ, List.getElem?_cons_zero, Option.getD_some]
            rw [H2.out]
            refine Reg.ord_pick rfl _ _ _ rfl rfl rfl false (by simp [Act.eval]) ?_; simp only [Act.put, Act.eval, List.setIfInBounds_toArray, List.set_cons_succ, List.set_cons_zero, Array.getD_eq_getD_getElem?, List.getElem?_toArray, List.getElem?_cons_succ, List.getElem?_cons_zero, Option.getD_some]
            refine Reg.ord_nil ?_
            clear hdx hdy1 hdy2
            go_wp2_with fail
            go_roundw
            case rel => exact ⟨l2, gg, n + 1, by go_num, hop5, hog4, F6.out, hst5⟩
            case measure => simp [intOf]; omega
          · rw [decide_eq_false hwo]
            have hE := hend (by omega)
            clear hend hstep hwo hxl hyl
            have hokl := hinv.ok
            have hsumA := hinv.sum
            have hlk := HL.out
            have hsucc : ∀ m, m < k → sumU (l.take (m + 1)) = sumU (l.take m) + (at0 l m).1 := fun m hm => by
              have hml : m < l.length := by omega
              rw [List.take_succ_eq_append_getElem hml, sumU_append, at0_eq hml]
              show sumU (l.take m) + (l[m].1 + 0) = _
              omega
            have hbnd : ∀ m, m ≤ k → 0 ≤ sumU (l.take m) ∧ sumU (l.take m) ≤ 32 * m := fun m hm => by
              have h1 := sumU_bound (l.take m) (fun q hq => hokl q (List.mem_of_mem_take hq))
              rw [List.length_take, Nat.min_eq_left (by omega)] at h1
              exact h1
            have hall : sumU (l.take k) = A := by rw [List.take_of_length_le (by omega), hsumA]
            have hcl := fun m hm => hop.cells m hm
            have hoka := fun m (hm : m < k) => hokl _ (at0_mem (l := l) (i := m) (by omega))
            have KE := Lib.hid hE
            have KS := Lib.hid hsucc
            have KB := Lib.hid hbnd
            have KA := Lib.hid hall
            have KC := Lib.hid hcl
            have KO := Lib.hid hoka
            clear hE hsucc hbnd hall hcl hoka hokl hsumA hlk hinv hop hog HL hokF
            go_wp2_with fail
            obtain ⟨wp, rfl⟩ : ∃ wp : World, wp = wr := ⟨_, rfl⟩
            go_loopw [16, 17] (fun sm i wr => ∃ m : Nat, m ≤ k ∧ i = .int .i64 m ∧ sm = .int .i64 (sumU (l.take m)) ∧ Below W10.heap.size W10 wr) (fun _ i _ => k - (intOf i).toNat)
            case atStart => exact ⟨0, by omega, rfl, rfl, Below.refl _ _⟩
            case round =>
              obtain ⟨m, hmk, rfl, rfl, hbm⟩ := hrel
              by_cases hlt : m < k
              · have hc := KC.out m hlt
                have ho := KO.out m hlt
                have hs1 := KS.out m hlt
                have hs0 := KB.out m hmk
                have hEm := KE.out m
                have ho1 : 0 ≤ (at0 l m).1 := ho.1
                have ho2 : (at0 l m).1 ≤ 32 := by have := ho.2.1; have := ho.2.2.2; omega
                have ho3 : 0 ≤ (at0 l m).2 := by have := ho.2.2.1; omega
                have ho4 : (at0 l m).2 ≤ 32 := ho.2.2.2
                generalize hui : (at0 l m).1 = ui at *
                generalize hni : (at0 l m).2 = ni at *
                have HS := Lib.hid hs1
                have HEm := Lib.hid hEm
                generalize sumU (l.take m) = sm at *
                obtain ⟨hci0, hci1⟩ := hc
                have hci := Below.at hbm hci0
                clear hs1 hui hni ho hEm
                go_wp2_with fail
                clear hci
                obtain ⟨wq, rfl⟩ : ∃ wq : World, wq = wr := ⟨_, rfl⟩
                go_loopw [18] (fun j wr => ∃ r : Nat, r ≤ k ∧ j = .int .i64 r ∧ Below W10.heap.size W10 wr) (fun j _ => k - (intOf j).toNat)
                case atStart => exact ⟨0, by omega, rfl, hbm⟩
                case round =>
                  clear hbm
                  obtain ⟨r, hrk, rfl, hbr⟩ := hrel
                  by_cases hltr : r < k
                  · have hcr := KC.out r hltr
                    have hor := KO.out r hltr
                    have hEr := HEm.out r hlt hltr
                    have hr1 : 0 ≤ (at0 l r).1 := hor.1
                    have hr2 : (at0 l r).1 ≤ 32 := by have := hor.2.1; have := hor.2.2.2; omega
                    have hr3 : 0 ≤ (at0 l r).2 := by have := hor.2.2.1; omega
                    have hr4 : (at0 l r).2 ≤ 32 := hor.2.2.2
                    generalize (at0 l r).1 = ur at *
                    generalize (at0 l r).2 = nr at *
                    have hm1 : 0 ≤ ui * nr ∧ ui * nr ≤ 10000 := ⟨Int.mul_nonneg ho1 hr3, by have h1 := Int.mul_le_mul ho2 hr4 hr3 (by omega : (0 : Int) ≤ 32); omega⟩
                    have hm2 : 0 ≤ (ur + 1) * ni ∧ (ur + 1) * ni ≤ 10000 := ⟨Int.mul_nonneg (by omega) ho3, by have h1 := Int.mul_le_mul (show ur + 1 ≤ 33 by omega) ho4 ho3 (by omega : (0 : Int) ≤ 33); omega⟩
                    have HE2 := Lib.hid (decide_eq_false (show ¬ ((ur + 1) * ni < ui * nr) by omega))
                    clear hEr hor
                    go_wp2_with fail
                    have hi0 : wr.drew.cell? ⟨g1, m * 2, none⟩ = some (.int .i64 ui) := Below.at hbr.drew hci0
                    have hi1 : wr.drew.cell? ⟨g1, m * 2 + 1, none⟩ = some (.int .i64 ni) := Below.at hbr.drew hci1
                    have hk0' : wr.drew.cell? ⟨g1, r * 2, none⟩ = some (.int .i64 ur) := Below.at hbr.drew hcr.1
                    have hk1' : wr.drew.cell? ⟨g1, r * 2 + 1, none⟩ = some (.int .i64 nr) := Below.at hbr.drew hcr.2
                    have hbrD := hbr.drew
                    refine Reg.region_ord (S := fun w' => w' = wr.drew) [(0, 1), (1, 1), (2, 1), (3, 1), (4, 1), (5, 1), (6, 1), (7, 1), (8, 1), (9, 1), (10, 1), (11, 1), (12, 1), (13, 1), (14, 1), (15, 1), (16, 1), (17, 1), (18, 1), (19, 1), (20, 1), (21, 1), (22, 1), (23, 1)] (by kernel_rfl) (by kernel_rfl) (by decide) (by kernel_rfl) (fun _ _ _ _ _ h => h) ?_
                    generalize wr.drew = W at *
                    refine Reg.ord_move rfl _ rfl rfl rfl ?_; simp only [Act.put, Act.eval, List.setIfInBounds_toArray, List.set_cons_succ, List.set_cons_zero, Array.getD_eq_getD_getElem?, List.getElem?_toArray, List.getElem?_cons_succ, List.getElem?_cons_zero, Option.getD_some]
                    refine Reg.ord_move rfl _ rfl rfl rfl ?_; simp only [Act.put, Act.eval, List.setIfInBounds_toArray, List.set_cons_succ, List.set_cons_zero, Array.getD_eq_getD_getElem?, List.getElem?_toArray, List.getElem?_cons_succ, List.getElem?_cons_zero, Option.getD_some]
                    refine Reg.ord_val rfl rfl rfl (.pointer (some ⟨g1, m * 2, none⟩)) (fun w' _ => by go_simp) ?_; simp only [Act.put, Act.eval, List.setIfInBounds_toArray, List.set_cons_succ, List.set_cons_zero, Array.getD_eq_getD_getElem?, List.getElem?_toArray, List.getElem?_cons_succ, List.getElem?_cons_zero, Option.getD_some]
                    refine Reg.ord_val rfl rfl rfl (.pointer (some ⟨g1, m * 2, none⟩)) (fun w' _ => by go_simp) ?_; simp only [Act.put, Act.eval, List.setIfInBounds_toArray, List.set_cons_succ, List.set_cons_zero, Array.getD_eq_getD_getElem?, List.getElem?_toArray, List.getElem?_cons_succ, List.getElem?_cons_zero, Option.getD_some]
                    refine Reg.ord_val rfl rfl rfl (.int .i64 ui) (fun w' h => by subst h; exact run_load_i _ rfl (by simp [Act.eval]) hi0) ?_; simp only [Act.put, Act.eval, List.setIfInBounds_toArray, List.set_cons_succ, List.set_cons_zero, Array.getD_eq_getD_getElem?, List.getElem?_toArray, List.getElem?_cons_succ, List.getElem?_cons_zero, Option.getD_some]
                    refine Reg.ord_move rfl _ rfl rfl rfl ?_; simp only [Act.put, Act.eval, List.setIfInBounds_toArray, List.set_cons_succ, List.set_cons_zero, Array.getD_eq_getD_getElem?, List.getElem?_toArray, List.getElem?_cons_succ, List.getElem?_cons_zero, Option.getD_some]
                    refine Reg.ord_move rfl _ rfl rfl rfl ?_; simp only [Act.put, Act.eval, List.setIfInBounds_toArray, List.set_cons_succ, List.set_cons_zero, Array.getD_eq_getD_getElem?, List.getElem?_toArray, List.getElem?_cons_succ, List.getElem?_cons_zero, Option.getD_some]
                    refine Reg.ord_val rfl rfl rfl (.pointer (some ⟨g1, r * 2, none⟩)) (fun w' _ => by go_simp) ?_; simp only [Act.put, Act.eval, List.setIfInBounds_toArray, List.set_cons_succ, List.set_cons_zero, Array.getD_eq_getD_getElem?, List.getElem?_toArray, List.getElem?_cons_succ, List.getElem?_cons_zero, Option.getD_some]
                    refine Reg.ord_val rfl rfl rfl (.pointer (some ⟨g1, r * 2 + 1, none⟩)) (fun w' _ => by go_simp) ?_; simp only [Act.put, Act.eval, List.setIfInBounds_toArray, List.set_cons_succ, List.set_cons_zero, Array.getD_eq_getD_getElem?, List.getElem?_toArray, List.getElem?_cons_succ, List.getElem?_cons_zero, Option.getD_some]
                    refine Reg.ord_val rfl rfl rfl (.int .i64 nr) (fun w' h => by subst h; exact run_load_i _ rfl (by simp [Act.eval]) hk1') ?_; simp only [Act.put, Act.eval, List.setIfInBounds_toArray, List.set_cons_succ, List.set_cons_zero, Array.getD_eq_getD_getElem?, List.getElem?_toArray, List.getElem?_cons_succ, List.getElem?_cons_zero, Option.getD_some]
                    refine Reg.ord_val rfl rfl rfl (.int .i64 (ui * nr)) (fun w' _ => run_mul_op rfl (by simp [Act.eval] <;> rfl) (by simp [Act.eval] <;> rfl) hm1) ?_; simp only [Act.put, Act.eval, List.setIfInBounds_toArray, List.set_cons_succ, List.set_cons_zero, Array.getD_eq_getD_getElem?, List.getElem?_toArray, List.getElem?_cons_succ, List.getElem?_cons_zero, Option.getD_some]
                    refine Reg.ord_move rfl _ rfl rfl rfl ?_; simp only [Act.put, Act.eval, List.setIfInBounds_toArray, List.set_cons_succ, List.set_cons_zero, Array.getD_eq_getD_getElem?, List.getElem?_toArray, List.getElem?_cons_succ, List.getElem?_cons_zero, Option.getD_some]
                    refine Reg.ord_move rfl _ rfl rfl rfl ?_; simp only [Act.put, Act.eval, List.setIfInBounds_toArray, List.set_cons_succ, List.set_cons_zero, Array.getD_eq_getD_getElem?, List.getElem?_toArray, List.getElem?_cons_succ, List.getElem?_cons_zero, Option.getD_some]
                    refine Reg.ord_val rfl rfl rfl (.pointer (some ⟨g1, r * 2, none⟩)) (fun w' _ => by go_simp) ?_; simp only [Act.put, Act.eval, List.setIfInBounds_toArray, List.set_cons_succ, List.set_cons_zero, Array.getD_eq_getD_getElem?, List.getElem?_toArray, List.getElem?_cons_succ, List.getElem?_cons_zero, Option.getD_some]
                    refine Reg.ord_val rfl rfl rfl (.pointer (some ⟨g1, r * 2, none⟩)) (fun w' _ => by go_simp) ?_; simp only [Act.put, Act.eval, List.setIfInBounds_toArray, List.set_cons_succ, List.set_cons_zero, Array.getD_eq_getD_getElem?, List.getElem?_toArray, List.getElem?_cons_succ, List.getElem?_cons_zero, Option.getD_some]
                    refine Reg.ord_val rfl rfl rfl (.int .i64 ur) (fun w' h => by subst h; exact run_load_i _ rfl (by simp [Act.eval]) hk0') ?_; simp only [Act.put, Act.eval, List.setIfInBounds_toArray, List.set_cons_succ, List.set_cons_zero, Array.getD_eq_getD_getElem?, List.getElem?_toArray, List.getElem?_cons_succ, List.getElem?_cons_zero, Option.getD_some]
                    refine Reg.ord_val rfl rfl rfl (.int .i64 (ur + 1)) (fun w' _ => by go_simp; exact IntWalk.i64_in _ (by omega)) ?_; simp only [Act.put, Act.eval, List.setIfInBounds_toArray, List.set_cons_succ, List.set_cons_zero, Array.getD_eq_getD_getElem?, List.getElem?_toArray, List.getElem?_cons_succ, List.getElem?_cons_zero, Option.getD_some]
                    refine Reg.ord_move rfl _ rfl rfl rfl ?_; simp only [Act.put, Act.eval, List.setIfInBounds_toArray, List.set_cons_succ, List.set_cons_zero, Array.getD_eq_getD_getElem?, List.getElem?_toArray, List.getElem?_cons_succ, List.getElem?_cons_zero, Option.getD_some]
                    refine Reg.ord_move rfl _ rfl rfl rfl ?_; simp only [Act.put, Act.eval, List.setIfInBounds_toArray, List.set_cons_succ, List.set_cons_zero, Array.getD_eq_getD_getElem?, List.getElem?_toArray, List.getElem?_cons_succ, List.getElem?_cons_zero, Option.getD_some]
                    refine Reg.ord_val rfl rfl rfl (.pointer (some ⟨g1, m * 2, none⟩)) (fun w' _ => by go_simp) ?_; simp only [Act.put, Act.eval, List.setIfInBounds_toArray, List.set_cons_succ, List.set_cons_zero, Array.getD_eq_getD_getElem?, List.getElem?_toArray, List.getElem?_cons_succ, List.getElem?_cons_zero, Option.getD_some]
                    refine Reg.ord_val rfl rfl rfl (.pointer (some ⟨g1, m * 2 + 1, none⟩)) (fun w' _ => by go_simp) ?_; simp only [Act.put, Act.eval, List.setIfInBounds_toArray, List.set_cons_succ, List.set_cons_zero, Array.getD_eq_getD_getElem?, List.getElem?_toArray, List.getElem?_cons_succ, List.getElem?_cons_zero, Option.getD_some]
                    refine Reg.ord_val rfl rfl rfl (.int .i64 ni) (fun w' h => by subst h; exact run_load_i _ rfl (by simp [Act.eval]) hi1) ?_; simp only [Act.put, Act.eval, List.setIfInBounds_toArray, List.set_cons_succ, List.set_cons_zero, Array.getD_eq_getD_getElem?, List.getElem?_toArray, List.getElem?_cons_succ, List.getElem?_cons_zero, Option.getD_some]
                    refine Reg.ord_val rfl rfl rfl (.int .i64 ((ur + 1) * ni)) (fun w' _ => run_mul_op rfl (by simp [Act.eval] <;> rfl) (by simp [Act.eval] <;> rfl) hm2) ?_; simp only [Act.put, Act.eval, List.setIfInBounds_toArray, List.set_cons_succ, List.set_cons_zero, Array.getD_eq_getD_getElem?, List.getElem?_toArray, List.getElem?_cons_succ, List.getElem?_cons_zero, Option.getD_some]
                    refine Reg.ord_val rfl rfl rfl (.bool (decide ((ur + 1) * ni < ui * nr))) (fun w' _ => run_gtr_op rfl (by simp [Act.eval] <;> rfl) (by simp [Act.eval] <;> rfl)) ?_; simp only [Act.put, Act.eval, List.setIfInBounds_toArray, List.set_cons_succ, List.set_cons_zero, Array.getD_eq_getD_getElem?, List.getElem?_toArray, List.getElem?_cons_succ, List.getElem?_cons_zero, Option.getD_some]
                    rw [HE2.out]
                    refine Reg.ord_nil ?_
                    clear hi0 hi1 hk0' hk1'
                    go_wp2_with fail
                    go_roundw
                    case rel => exact ⟨r + 1, by omega, by go_num, hbrD⟩
                    case measure => simp [intOf]; omega
                  · obtain rfl : r = k := by omega
                    go_wp2_with fail
                    go_roundw
                    case rel => exact ⟨m + 1, by omega, by go_num, by rw [HS.out], hbr⟩
                    case measure => simp [intOf]; omega
              · obtain rfl : m = k := by omega
                rw [KA.out]
                have hee : ((A : Int) == A) = true := by simp
                go_wp2_with fail
                exact ret_tmp rfl _ rfl rfl ⟨rfl, hst.trans (hbm.mono hst.size)⟩
/-! ### The row's step -/
set_option maxRecDepth 100000 in
theorem lifted (os : Os) (started : os.Started) (H : Type) (enc : TypeId × Value → H) :
    ReturnsInHanded {} Try.checked os 7 .any (Rows.policyEndsSpec.pre6 enc Try.prog Try.f7 Rows.policyEndsRow.domain false) (Rows.policyEndsSpec.post enc Try.prog Try.f7 false true false false) := by
  refine returnsInHanded_of_change (C := Try.checked) own started (by kernel_rfl) Try.func7
    (ChangeSpec.witness6 (enc := enc) (C := Try.checked) false ⟨#[], #[.slice none 0 0], []⟩ 8 (by kernel_rfl) (by kernel_rfl) (by kernel_rfl) (by kernel_rfl)) ?_
  intro W base args ds gs before hval0 hW hcnd _
  have hval : ∀ (j : Nat) t v, Try.f7.params[j]? = some t → args[j]? = some v → Value.okWide Try.prog W .any base t v := hval0
  have hW' := hW
  obtain ⟨p, q, hA0, hV, rfl, hfz, hnd⟩ := hW
  have hA : DataW.TrodAll enc Try.prog W 0 (fun _ => true) true Try.f7.params.toList args.toList ds p := hA0
  rw [Try.params7] at hA hval
  obtain ⟨v0, vs0, d0, ds0, p0, q0, hargs, rfl, rfl, h0, r0⟩ := trodAll_cons hA
  obtain ⟨rfl, rfl, rfl⟩ := trodAll_nil r0
  obtain rfl : args = #[v0] := by cases args; simp_all
  obtain ⟨rfl, rfl⟩ := trodVars_none hV
  have k0 := h0
  have lt0 : ∀ x ∈ p0, x.block < W.heap.size := by obtain ⟨m, hm⟩ := k0; exact DataW.trod_lt m _ _ _ hm
  obtain ⟨x0, hs0⟩ := open_parts (hval 0 29 v0 rfl rfl) k0
  clear hA0 hval0
  refine (walk v0 x0 W hs0).mono fun e W' ⟨he, bel⟩ => ?_
  subst he
  exact ⟨_, rfl, _, _, _, [], _, [], hW', trodAll_mk1 (shut_bool Try.underlying4 _), (trodAll_cons_mk (Below.trod laidOut (by kernel_rfl) (of_decide_eq_true (by kernel_rfl)) k0 bel lt0) trodAll_mk0), rfl, bel.frame _, fun h => by cases h⟩

theorem over : Rows.policyEndsRow.holds Try.pinned (OpenSpec.ofChange Rows.policyEndsSpec) :=
  OpenClaim.holds_of_wide 7 Try.f7 rfl rfl rfl rfl rfl rfl rfl ⟨rfl, rfl, rfl, rfl, rfl⟩ rfl rfl rfl rfl rfl (by kernel_rfl) Try.func7 (by kernel_rfl)
    (of_decide_eq_true (by kernel_rfl)) (by unfold Func.isWrapper; first | (rw [if_pos (by decide +kernel)]; kernel_rfl) | (rw [if_neg (by decide +kernel)]; exact ⟨rfl, rfl⟩))
    (fun os started H enc _ => lifted os started H enc)

/-- The statement. -/
theorem proved : Rows.PolicyEndsSaid := over
#print axioms proved
end Go.Proofs.Ytgmpekkoffkphaa.ends
