/- RecencyRounds: who is touched in turn stays in turn; turned round it is turned round. The statement holds as it stands: no condition. -/
import Derived.Test.YtbbdbcgmeffchaaPlain2
import Derived.Deep.CutBlock
namespace Go.Proofs.Ytbbdbcgmeffchaa.rounds
open Go.RowKit Go.ChangeShapes Go.WideShapes Go.ChangeAt
set_option linter.unusedSimpArgs false
set_option maxRecDepth 100000 in
set_option maxHeartbeats 8000000 in
theorem walk (v : Value) (l : List Int) (n : Int) (w : World) (hs : IsI w v l ∧ ∀ x ∈ l, wf64 x) :
    Calls Try.prog 5 #[v, .int .i64 n] w fun e w' => e = .returned (.bool true) ∧ Below w.heap.size w w' := by
  obtain ⟨hs, hwf⟩ := hs
  obtain ⟨a, c, rfl, hm, hc⟩ := hs.form
  unfold maxLen at hm
  go_enter Try.func5, Try.ntmps5
  go_wp2_with fail
  refine (shown_any _).mono ?_
  rintro e W6 ⟨rfl, hst⟩
  go_wp2_with fail
  refine (new_any _).mono ?_
  rintro e W7 ⟨r, F7, rfl, hr, hb7⟩
  replace hr := Row.down hr hst.size
  replace hst := hst.trans (hb7.mono hst.size)
  clear hb7
  go_upto_block 0 with fail
  go_cut [7] from 19 to 34 (fun s7 wx => ∃ bs F, Row wx w.heap.size r bs F ∧ bs.Nodup ∧ bs.length ≤ 50 ∧ Below w.heap.size w wx)
  case first =>
    go_wp2_with fail
    go_loopw [7] (fun i wr => ∃ k : Nat, k ≤ l.length ∧ k ≤ 50 ∧ i = .int .i64 k ∧ (∃ F, Row wr w.heap.size r (rowOf (l.take k)) F) ∧ Below w.heap.size w wr) (fun i _ => 50 - (intOf i).toNat)
    case atStart => exact ⟨0, by omega, by omega, rfl, ⟨F7, hr⟩, hst⟩
    case round =>
      clear hr hst
      obtain ⟨k, hk, hk50, rfl, ⟨F, hr⟩, hst'⟩ := hrel
      by_cases hlt : k < l.length ∧ k < 50
      · obtain ⟨hlt, hl50⟩ := hlt
        obtain ⟨b, o, rfl, hat⟩ := IsI.at hs (by omega)
        have hck := Below.at hst' (hat k hlt)
        have hwk := hwf _ (List.getElem_mem hlt)
        have hlen := rowOf_len l k hk
        have hsu := Lib.hid (rowOf_succ l k hlt)
        generalize l[k] = x at *
        clear hat
        go_wp2_with fail
        refine (touch_any _ _ r _ _ x hr hwk (by omega)).mono ?_
        rintro e W8 ⟨rfl, ⟨F8, hr8, _⟩, hu8⟩
        have hst8 := hu8.below hst' hst'.size (fun q hF => (hr.low q hF).1)
        have hr8' : Row W8 w.heap.size r (rowOf (l.take (k + 1))) F8 := by rw [hsu.out]; exact hr8
        clear hr hst' hu8 hr8 hck
        go_wp2_with fail
        go_roundw
        case rel => exact ⟨k + 1, by omega, by omega, by go_num, ⟨F8, hr8'⟩, hst8⟩
        case measure => simp [intOf]; omega
      · have hlen := rowOf_len l k hk
        have hend : l.length ≤ k ∨ 50 ≤ k := by omega
        have hnd := Lib.hid (rowOf_nodup l k hk)
        clear hlt
        generalize rowOf (l.take k) = bs at *
        go_wp2_with fail
        all_goals
          go_meet
          exact ⟨bs, F, hr, hnd.out, by omega, hst'⟩
  case rest =>
    obtain ⟨bs, F, hr, hnd, hb50, hst⟩ := hcut
    have hwf := hr.wf
    have HN := Lib.hid hnd
    clear hnd
    go_wp2_with fail
    refine (all_any _ _ r _ _ hr (by omega)).mono ?_
    rintro e W8 ⟨v8, rfl, hown, hb8⟩
    have hlow := fun k hF => (hr.low k hF).2
    replace hr := hr.step hb8
    replace hst := hst.trans (hb8.mono hst.size)
    have hap := hown.apart hlow
    clear hb8 hlow
    obtain ⟨ab, cb, rfl, hmb, hcb⟩ := hown.isI.form
    unfold maxLen at hmb
    obtain ⟨m, hm7, hand⟩ := run_and7 n
    have HB : ∃ B, B = wc.heap.size := ⟨_, rfl⟩
    obtain ⟨B, hB⟩ := HB
    rw [← hB] at hown
    clear hB hs hm hc
    go_upto_block 2 with fail
    go_cut [9, 10, 11] from 37 to 67 (fun s9 s10 s11 wx => ∃ F, Row wx w.heap.size r bs F ∧ OwnI wx B (.slice ab bs.length cb) bs ∧ Apart F (.slice ab bs.length cb) ∧ Below w.heap.size w wx)
    case first =>
      go_wp2_with (refine wl_bin rfl .and 3 3 _ _ rfl _ _ _ hand rfl rfl ⟨by decide, by decide⟩ ?_; go_frame)
      go_loopw [9] (fun i wr => ∃ k : Nat, k ≤ m ∧ i = .int .i64 k ∧ ∃ F, Row wr w.heap.size r bs F ∧ OwnI wr B (.slice ab bs.length cb) bs ∧ Apart F (.slice ab bs.length cb) ∧ Below w.heap.size w wr) (fun i _ => 7 - (intOf i).toNat)
      case atStart => exact ⟨0, by omega, rfl, F, hr, hown, hap, hst⟩
      case round =>
        clear hr hown hap hst
        obtain ⟨k, hk, rfl, F, hr, hown, hap, hst⟩ := hrel
        by_cases hkm : k < m
        · have hr0 : Row wr w.heap.size r (turned bs 0) F := by rw [turned_zero]; exact hr
          clear hr
          go_wp2_with (refine wl_bin rfl .and 3 3 _ _ rfl _ _ _ hand rfl rfl ⟨by decide, by decide⟩ ?_; go_frame)
          go_loopw [10] (fun i wr => ∃ k : Nat, k ≤ bs.length ∧ i = .int .i64 k ∧ ∃ F, Row wr w.heap.size r (turned bs k) F ∧ OwnI wr B (.slice ab bs.length cb) bs ∧ Apart F (.slice ab bs.length cb) ∧ Below w.heap.size w wr) (fun i _ => bs.length - (intOf i).toNat)
          case atStart => exact ⟨0, by omega, rfl, F, hr0, hown, hap, hst⟩
          case round =>
            clear hr0 hown hap hst
            obtain ⟨j, hj, rfl, F, hr, hown, hap, hst⟩ := hrel
            by_cases hlt : j < bs.length
            · obtain ⟨b, o, rfl, hat⟩ := IsI.at hown.isI (by omega)
              have hck := hat j hlt
              have hwk := hwf _ (List.getElem_mem hlt)
              have hct : (turned bs j).contains bs[j] = true := by simpa using turned_mem j (List.getElem_mem hlt)
              have hlen := turned_len bs j
              have hsu := Lib.hid (turned_succ HN.out j hlt)
              generalize bs[j] = x at *
              clear hat
              have HC := Lib.hid hct
              clear hct
              go_wp2_with fail
              refine (has_any _ _ r _ _ x hr hwk).mono ?_
              rintro e W9 ⟨rfl, rfl⟩
              rw [HC.out]
              go_wp2_with fail
              refine (touch_any _ _ r _ _ x hr hwk (by omega)).mono ?_
              rintro e W10 ⟨rfl, ⟨F10, hr10, hF10⟩, hu10⟩
              have hst10 := hu10.below hst hst.size (fun q hF => (hr.low q hF).1)
              obtain ⟨hown10, hap10⟩ := hown.touched hap hu10 hF10
              have hr10' : Row W10 w.heap.size r (turned bs (j + 1)) F10 := by rw [← hsu.out]; exact hr10
              clear hr hst hu10 hF10 hr10 hck hown hap
              go_wp2_with fail
              go_roundw
              case rel => exact ⟨j + 1, by omega, by go_num, F10, hr10', hown10, hap10, hst10⟩
              case measure => simp [intOf]; omega
            · obtain rfl : j = bs.length := by omega
              rw [turned_all] at hr
              go_wp2_with fail
              refine (all_any _ _ r _ _ hr (by omega)).mono ?_
              rintro e W9 ⟨v9, rfl, hown9, hb9⟩
              replace hr := hr.step hb9
              replace hst := hst.trans (hb9.mono hst.size)
              replace hown := hown.step hb9
              have hI9 := hown9.isI
              clear hb9 hown9
              go_wp2_with fail
              refine (numbers_any _ _ _ _ _ hI9 hown.isI).mono ?_
              rintro e W10 ⟨rfl, hb10⟩
              rw [decide_eq_true rfl]
              replace hr := hr.step hb10
              replace hst := hst.trans (hb10.mono hst.size)
              replace hown := hown.step hb10
              clear hb10 hI9
              go_wp2_with fail
              go_roundw
              case rel => exact ⟨k + 1, by omega, by go_num, F, hr, hown, hap, hst⟩
              case measure => simp [intOf]; omega
        · obtain rfl : k = m := by omega
          go_wp2_with (refine wl_bin rfl .and 3 3 _ _ rfl _ _ _ hand rfl rfl ⟨by decide, by decide⟩ ?_; go_frame)
          go_meet
          exact ⟨F, hr, hown, hap, hst⟩
    case rest =>
      clear hr hown hap hst hand hm7
      obtain ⟨F, hr, hown, hap, hst⟩ := hcut
      have hr0 : Row wc w.heap.size r (backed bs bs.length) F := by rw [backed_all]; exact hr
      clear hr
      go_wp2_with fail
      go_loopw [12] (fun i wr => ∃ k : Nat, k ≤ bs.length ∧ i = .int .i64 ((k : Int) - 1) ∧ ∃ F, Row wr w.heap.size r (backed bs k) F ∧ OwnI wr B (.slice ab bs.length cb) bs ∧ Apart F (.slice ab bs.length cb) ∧ Below w.heap.size w wr) (fun i _ => (intOf i + 1).toNat)
      case atStart => exact ⟨bs.length, by omega, by go_num, F, hr0, hown, hap, hst⟩
      case round =>
        clear hr0 hown hap hst
        obtain ⟨k, hk, rfl, F, hr, hown, hap, hst⟩ := hrel
        cases k with
        | succ j =>
          rw [show (((j + 1 : Nat) : Int) - 1) = (j : Int) by omega]
          have hlt : j < bs.length := by omega
          obtain ⟨b, o, rfl, hat⟩ := IsI.at hown.isI (by omega)
          have hck := hat j hlt
          have hwk := hwf _ (List.getElem_mem hlt)
          have hlen := backed_len bs (j + 1)
          have hsu := Lib.hid (backed_pred HN.out j hlt)
          generalize bs[j] = x at *
          clear hat
          go_wp2_with fail
          refine (touch_any _ _ r _ _ x hr hwk (by omega)).mono ?_
          rintro e W10 ⟨rfl, ⟨F10, hr10, hF10⟩, hu10⟩
          have hst10 := hu10.below hst hst.size (fun q hF => (hr.low q hF).1)
          obtain ⟨hown10, hap10⟩ := hown.touched hap hu10 hF10
          have hr10' : Row W10 w.heap.size r (backed bs j) F10 := by rw [← hsu.out]; exact hr10
          clear hr hst hu10 hF10 hr10 hck hown hap
          go_wp2_with fail
          go_roundw
          case rel => exact ⟨j, by omega, by rfl, F10, hr10', hown10, hap10, hst10⟩
          case measure => simp [intOf]
        | zero =>
          rw [show (((0 : Nat) : Int) - 1) = -1 by rfl]
          rw [backed_zero] at hr
          have hlr : bs.reverse.length = bs.length := List.length_reverse
          go_wp2_with fail
          refine (all_any _ _ r _ _ hr (by omega)).mono ?_
          rintro e W9 ⟨v9, rfl, hown9, hb9⟩
          replace hst := hst.trans (hb9.mono hst.size)
          have hI := (hown.step hb9).isI
          have hJ := hown9.isI
          clear hb9 hown9 hr hown hap
          obtain ⟨a2, c2, rfl, _, hc2⟩ := hJ.form
          rw [hlr] at hc2 hJ
          rw [hlr]
          go_wp2_with fail
          obtain ⟨wq, rfl⟩ : ∃ wq : World, wq = W9 := ⟨_, rfl⟩
          go_loopw [14] (fun i wr => ∃ k : Nat, k ≤ bs.length ∧ i = .int .i64 k ∧ Below wq.heap.size wq wr) (fun i _ => bs.length - (intOf i).toNat)
          case atStart => exact ⟨0, by omega, rfl, Below.refl _ _⟩
          case round =>
            obtain ⟨k, hk, rfl, hbk⟩ := hrel
            by_cases hlt : k < bs.length
            · obtain ⟨b, o, rfl, hat⟩ := IsI.at hI (by omega)
              obtain ⟨b2, o2, rfl, hat2⟩ := IsI.at hJ (by omega)
              have hc1 := Below.at hbk.drew (hat (bs.length - 1 - k) (by omega))
              have hc2 := Below.at hbk.drew (hat2 k (by omega))
              rw [List.getElem_reverse] at hc2
              have hbD := hbk.drew
              generalize bs[bs.length - 1 - k]'(by omega) = x at *
              clear hat hat2 hbk
              have hk' : bs.length - 1 - k < bs.length := by omega
              have hk2 : Hid (((bs.length - 1 - k : Nat) : Int) = (bs.length : Int) - 1 - k) := Lib.hid (p := ((bs.length - 1 - k : Nat) : Int) = (bs.length : Int) - 1 - k) (by omega)
              go_wp2_with fail
              refine Reg.region_ord (S := fun w' => w' = wr.drew) [(0, 1), (1, 1), (2, 1), (3, 1), (4, 1), (5, 1), (6, 1), (7, 1), (8, 1), (9, 1), (10, 1), (11, 1), (12, 1)] (by kernel_rfl) (by kernel_rfl) (by decide) (by kernel_rfl) (fun _ _ _ _ _ h => h) ?_
              generalize wr.drew = W at *
              refine Reg.ord_move rfl _ rfl rfl rfl ?_; simp only [Act.put, Act.eval, List.setIfInBounds_toArray, List.set_cons_succ, List.set_cons_zero, Array.getD_eq_getD_getElem?, List.getElem?_toArray, List.getElem?_cons_succ, List.getElem?_cons_zero, Option.getD_some]
              refine Reg.ord_move rfl _ rfl rfl rfl ?_; simp only [Act.put, Act.eval, List.setIfInBounds_toArray, List.set_cons_succ, List.set_cons_zero, Array.getD_eq_getD_getElem?, List.getElem?_toArray, List.getElem?_cons_succ, List.getElem?_cons_zero, Option.getD_some]
              refine Reg.ord_val rfl rfl rfl (.pointer (some ⟨b2, o2 + k, none⟩)) (fun w' _ => by go_simp) ?_; simp only [Act.put, Act.eval, List.setIfInBounds_toArray, List.set_cons_succ, List.set_cons_zero, Array.getD_eq_getD_getElem?, List.getElem?_toArray, List.getElem?_cons_succ, List.getElem?_cons_zero, Option.getD_some]
              refine Reg.ord_val rfl rfl rfl (.int .i64 x) (fun w' h => by subst h; exact run_ld agg3 _ rfl (by simp [Act.eval]) hc2) ?_; simp only [Act.put, Act.eval, List.setIfInBounds_toArray, List.set_cons_succ, List.set_cons_zero, Array.getD_eq_getD_getElem?, List.getElem?_toArray, List.getElem?_cons_succ, List.getElem?_cons_zero, Option.getD_some]
              refine Reg.ord_move rfl _ rfl rfl rfl ?_; simp only [Act.put, Act.eval, List.setIfInBounds_toArray, List.set_cons_succ, List.set_cons_zero, Array.getD_eq_getD_getElem?, List.getElem?_toArray, List.getElem?_cons_succ, List.getElem?_cons_zero, Option.getD_some]
              refine Reg.ord_move rfl _ rfl rfl rfl ?_; simp only [Act.put, Act.eval, List.setIfInBounds_toArray, List.set_cons_succ, List.set_cons_zero, Array.getD_eq_getD_getElem?, List.getElem?_toArray, List.getElem?_cons_succ, List.getElem?_cons_zero, Option.getD_some]
              refine Reg.ord_val rfl rfl rfl (.int .i64 bs.length) (fun w' _ => by go_simp) ?_; simp only [Act.put, Act.eval, List.setIfInBounds_toArray, List.set_cons_succ, List.set_cons_zero, Array.getD_eq_getD_getElem?, List.getElem?_toArray, List.getElem?_cons_succ, List.getElem?_cons_zero, Option.getD_some]
              refine Reg.ord_val rfl rfl rfl (.int .i64 (bs.length - 1)) (fun w' _ => by go_simp; exact IntWalk.i64_in _ (by omega)) ?_; simp only [Act.put, Act.eval, List.setIfInBounds_toArray, List.set_cons_succ, List.set_cons_zero, Array.getD_eq_getD_getElem?, List.getElem?_toArray, List.getElem?_cons_succ, List.getElem?_cons_zero, Option.getD_some]
              refine Reg.ord_move rfl _ rfl rfl rfl ?_; simp only [Act.put, Act.eval, List.setIfInBounds_toArray, List.set_cons_succ, List.set_cons_zero, Array.getD_eq_getD_getElem?, List.getElem?_toArray, List.getElem?_cons_succ, List.getElem?_cons_zero, Option.getD_some]
              refine Reg.ord_val rfl rfl rfl (.int .i64 (bs.length - 1 - k : Nat)) (fun w' _ => by rw [hk2.out]; go_simp; exact IntWalk.i64_in _ (by omega)) ?_; simp only [Act.put, Act.eval, List.setIfInBounds_toArray, List.set_cons_succ, List.set_cons_zero, Array.getD_eq_getD_getElem?, List.getElem?_toArray, List.getElem?_cons_succ, List.getElem?_cons_zero, Option.getD_some]
              clear hk2
              generalize bs.length - 1 - k = q at *
              refine Reg.ord_val rfl rfl rfl (.pointer (some ⟨b, o + q, none⟩)) (fun w' _ => by go_simp) ?_; simp only [Act.put, Act.eval, List.setIfInBounds_toArray, List.set_cons_succ, List.set_cons_zero, Array.getD_eq_getD_getElem?, List.getElem?_toArray, List.getElem?_cons_succ, List.getElem?_cons_zero, Option.getD_some]
              refine Reg.ord_val rfl rfl rfl (.int .i64 x) (fun w' h => by subst h; exact run_ld agg3 _ rfl (by simp [Act.eval]) hc1) ?_; simp only [Act.put, Act.eval, List.setIfInBounds_toArray, List.set_cons_succ, List.set_cons_zero, Array.getD_eq_getD_getElem?, List.getElem?_toArray, List.getElem?_cons_succ, List.getElem?_cons_zero, Option.getD_some]
              refine Reg.ord_val rfl rfl rfl (.bool false) (fun w' _ => by go_simp) ?_; simp only [Act.put, Act.eval, List.setIfInBounds_toArray, List.set_cons_succ, List.set_cons_zero, Array.getD_eq_getD_getElem?, List.getElem?_toArray, List.getElem?_cons_succ, List.getElem?_cons_zero, Option.getD_some]
              refine Reg.ord_nil ?_
              go_wp2_with fail
              go_roundw
              case rel => exact ⟨k + 1, by omega, by go_num, hbD⟩
              case measure => simp [intOf]; omega
            · obtain rfl : k = bs.length := by omega
              have hst2 := hst.trans (hbk.mono hst.size)
              go_wp2_with fail
              exact ret_tmp rfl _ rfl rfl ⟨rfl, hst2⟩
/-! ### The row's step -/
set_option maxRecDepth 100000 in
theorem lifted (os : Os) (started : os.Started) (H : Type) (enc : TypeId × Value → H) :
    ReturnsInHanded {} Try.checked os 5 .any (Rows.recencyRoundsSpec.pre6 enc Try.prog Try.f5 Rows.recencyRoundsRow.domain false) (Rows.recencyRoundsSpec.post enc Try.prog Try.f5 false true false false) := by
  refine returnsInHanded_of_change (C := Try.checked) own started (by kernel_rfl) Try.func5
    (ChangeSpec.witness6 (enc := enc) (C := Try.checked) false ⟨#[], #[.slice none 0 0, .int .i64 0], []⟩ 8 (by kernel_rfl) (by kernel_rfl) (by kernel_rfl) (by kernel_rfl)) ?_
  intro W base args ds gs before hval0 hW hcnd _
  have hval : ∀ (j : Nat) t v, Try.f5.params[j]? = some t → args[j]? = some v → Value.okWide Try.prog W .any base t v := hval0
  have hW' := hW
  obtain ⟨p, q, hA0, hV, rfl, hfz, hnd⟩ := hW
  have hA : DataW.TrodAll enc Try.prog W 0 (fun _ => true) true Try.f5.params.toList args.toList ds p := hA0
  rw [Try.params5] at hA hval
  obtain ⟨v0, vs0, d0, ds0, p0, q0, hargs, rfl, rfl, h0, r0⟩ := trodAll_cons hA
  obtain ⟨v1, vs1, d1, ds1, p1, q1, rfl, rfl, rfl, h1, r1⟩ := trodAll_cons r0
  obtain ⟨rfl, rfl, rfl⟩ := trodAll_nil r1
  obtain rfl : args = #[v0, v1] := by cases args; simp_all
  obtain ⟨rfl, rfl⟩ := trodVars_none hV
  have k0 := h0
  have lt0 : ∀ x ∈ p0, x.block < W.heap.size := by obtain ⟨m, hm⟩ := k0; exact DataW.trod_lt m _ _ _ hm
  obtain ⟨x0, hs0⟩ := open_is (hval 0 22 v0 rfl rfl) k0
  have k1 := h1
  clear h1
  obtain ⟨x1, rfl, rfl, rfl, w1⟩ := open_int Try.underlying3 (hval 1 3 v1 rfl rfl) k1
  clear hA0 hval0
  refine (walk v0 x0 x1 W hs0).mono fun e W' ⟨he, bel⟩ => ?_
  subst he
  exact ⟨_, rfl, _, _, _, [], _, [], hW', trodAll_mk1 (shut_bool Try.underlying4 _), (trodAll_cons_mk (Below.trod laidOut (by kernel_rfl) (of_decide_eq_true (by kernel_rfl)) k0 bel lt0) (trodAll_cons_mk (shut_int Try.underlying3 w1) trodAll_mk0)), rfl, bel.frame _, fun h => by cases h⟩

theorem over : Rows.recencyRoundsRow.holds Try.pinned (OpenSpec.ofChange Rows.recencyRoundsSpec) :=
  OpenClaim.holds_of_wide 5 Try.f5 rfl rfl rfl rfl rfl rfl rfl ⟨rfl, rfl, rfl, rfl, rfl⟩ rfl rfl rfl rfl rfl (by kernel_rfl) Try.func5 (by kernel_rfl)
    (of_decide_eq_true (by kernel_rfl)) (by unfold Func.isWrapper; first | (rw [if_pos (by decide +kernel)]; kernel_rfl) | (rw [if_neg (by decide +kernel)]; exact ⟨rfl, rfl⟩))
    (fun os started H enc _ => lifted os started H enc)

/-- The statement. -/
theorem proved : Rows.RecencyRoundsSaid := over
#print axioms proved
end Go.Proofs.Ytbbdbcgmeffchaa.rounds
