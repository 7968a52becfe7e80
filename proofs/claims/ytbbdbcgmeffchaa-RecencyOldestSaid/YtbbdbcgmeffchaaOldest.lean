/- RecencyOldest: the oldest are the beginning of all; taken away, the rest is the end of it; nobody is left in the end. The statement holds as it stands: no condition. -/
import Derived.Test.YtbbdbcgmeffchaaPlain3
import Derived.Deep.CutBlock
import Derived.Deep.LoopGhost
namespace Go.Proofs.Ytbbdbcgmeffchaa.oldest
open Go.RowKit Go.ChangeShapes Go.WideShapes Go.ChangeAt
set_option linter.unusedSimpArgs false
set_option maxRecDepth 100000 in
set_option maxHeartbeats 4000000 in
theorem walk (v : Value) (l : List Int) (n : Int) (w : World) (hs : IsI w v l ∧ ∀ x ∈ l, wf64 x) :
    Calls Try.prog 6 #[v, .int .i64 n] w fun e w' => e = .returned (.bool true) ∧ Below w.heap.size w w' := by
  obtain ⟨hs, hwf⟩ := hs
  obtain ⟨a, c, rfl, hm, hc⟩ := hs.form
  unfold maxLen at hm
  go_enter Try.func6, Try.ntmps6
  go_wp2_with fail
  refine (shown_any _).mono ?_
  rintro e W6 ⟨rfl, hst⟩
  go_wp2_with fail
  refine (new_any _).mono ?_
  rintro e W7 ⟨r, F7, rfl, hr, hb7⟩
  replace hr := Row.down hr hst.size
  replace hst := hst.trans (hb7.mono hst.size)
  clear hb7
  go_upto_block 0 with fail
  go_cut [7] from 20 to 35 (fun s7 wx => ∃ bs F, Row wx w.heap.size r bs F ∧ bs.Nodup ∧ bs.length ≤ 50 ∧ Below w.heap.size w wx)
  case first =>
    go_wp2_with fail
    go_loopw [7] (fun i wr => ∃ k : Nat, k ≤ l.length ∧ k ≤ 50 ∧ i = .int .i64 k ∧ (∃ F, Row wr w.heap.size r (rowOf (l.take k)) F) ∧ Below w.heap.size w wr) (fun i _ => 50 - (intOf i).toNat)
    case atStart => exact ⟨0, by omega, by omega, rfl, ⟨F7, hr⟩, hst⟩
    case round =>
      clear hr hst
      obtain ⟨k, hk, hk50, rfl, ⟨F, hr⟩, hst'⟩ := hrel
      by_cases hlt : k < l.length ∧ k < 50
      · obtain ⟨hlt, hl50⟩ := hlt
        obtain ⟨b, o, rfl, hat⟩ := IsI.at hs (by omega)
        have hck := Below.at hst' (hat k hlt)
        have hwk := hwf _ (List.getElem_mem hlt)
        have hlen := rowOf_len l k hk
        have hsu := Lib.hid (rowOf_succ l k hlt)
        generalize l[k] = x at *
        clear hat
        go_wp2_with fail
        refine (touch_any _ _ r _ _ x hr hwk (by omega)).mono ?_
        rintro e W8 ⟨rfl, ⟨F8, hr8, _⟩, hu8⟩
        have hst8 := hu8.below hst' hst'.size (fun q hF => (hr.low q hF).1)
        have hr8' : Row W8 w.heap.size r (rowOf (l.take (k + 1))) F8 := by rw [hsu.out]; exact hr8
        clear hr hst' hu8 hr8 hck
        go_wp2_with fail
        go_roundw
        case rel => exact ⟨k + 1, by omega, by omega, by go_num, ⟨F8, hr8'⟩, hst8⟩
        case measure => simp [intOf]; omega
      · have hlen := rowOf_len l k hk
        have hend : l.length ≤ k ∨ 50 ≤ k := by omega
        have hnd := Lib.hid (rowOf_nodup l k hk)
        clear hlt
        generalize rowOf (l.take k) = bs at *
        go_wp2_with fail
        all_goals
          go_meet
          exact ⟨bs, F, hr, hnd.out, by omega, hst'⟩
  case rest =>
    clear hr hst hs hm hc
    obtain ⟨bs, F, hr, hnd, hb50, hst⟩ := hcut
    have hwf := hr.wf
    have HN := Lib.hid hnd
    clear hnd
    go_wp2_with fail
    refine (all_any _ _ r _ _ hr (by omega)).mono ?_
    rintro e W8 ⟨v8, rfl, hown, hb8⟩
    have hlow := fun k hF => (hr.low k hF).2
    replace hr := hr.step hb8
    replace hst := hst.trans (hb8.mono hst.size)
    have hap := hown.apart hlow
    clear hb8 hlow
    obtain ⟨ab, cb, rfl, hmb, hcb⟩ := hown.isI.form
    unfold maxLen at hmb
    have HB : ∃ B, B = wc.heap.size := ⟨_, rfl⟩
    obtain ⟨B, hB⟩ := HB
    rw [← hB] at hown
    clear hB
    go_wp2_with fail
    refine (oldest_any _ _ r _ _ n hr (by omega)).mono ?_
    rintro e W9 ⟨v9, rfl, hfew, hb9⟩
    have hlow := fun k hF => (hr.low k hF).2
    replace hr := hr.step hb9
    replace hst := hst.trans (hb9.mono hst.size)
    replace hown := hown.step hb9
    have haf := hfew.apart hlow
    clear hb9 hlow
    rw [take_clamp] at hfew
    have hz2 := clamp n bs.length
    obtain ⟨z, hz⟩ : ∃ z : Int, min n bs.length = z := ⟨_, rfl⟩
    rw [hz] at hz2
    have hqc : min n.toNat bs.length ≤ bs.length := Nat.min_le_right _ _
    generalize min n.toNat bs.length = q at *
    have hfl : (bs.take q).length = q := by rw [List.length_take]; omega
    obtain ⟨af, cf, rfl, hmf, hcf⟩ := hfew.isI.form
    unfold maxLen at hmf
    rw [hfl] at hfew hmf hcf haf ⊢
    have HB : ∃ B, B = W8.heap.size := ⟨_, rfl⟩
    obtain ⟨B2, hB⟩ := HB
    rw [← hB] at hfew
    clear hB
    have hcut := hown.isI.hi q hqc
    obtain ⟨vc, hvc⟩ : ∃ vc, vc = sliced ab 0 q cb 1 := ⟨_, rfl⟩
    rw [← hvc] at hcut
    have HVC := Lib.hid hvc.symm
    have HZ2 := Lib.hid hz2
    have HZ := Lib.hid hz
    clear hvc hz2 hz
    go_wp2_with (first
      | (with_reducible refine wl_min rfl _ _ rfl n bs.length z rfl rfl HZ.out ?_; go_frame)
      | (with_reducible refine wl_max rfl _ _ rfl 0 z q rfl rfl HZ2.out ?_; go_frame)
      | (with_reducible refine wl_hi rfl _ _ rfl ab bs.length cb q rfl rfl (by omega) _ HVC.out ?_; go_frame))
    refine (numbers_any _ _ _ _ _ hfew.isI hcut).mono ?_
    rintro e W10 ⟨rfl, hb10⟩
    rw [decide_eq_true rfl]
    replace hr := hr.step hb10
    replace hst := hst.trans (hb10.mono hst.size)
    replace hown := hown.step hb10
    replace hfew := hfew.step hb10
    clear hb10 hcut HVC HZ HZ2
    go_upto_block 2 with fail
    go_cut [12] from 53 to 65 (fun s12 wx => Row wx w.heap.size r (bs.drop q) F ∧ OwnI wx B (.slice ab bs.length cb) bs ∧ Below w.heap.size w wx)
    case first =>
      have hr0 : Row W10 w.heap.size r (bs.drop 0) F := by rw [List.drop_zero]; exact hr
      clear hr
      go_wp2_with fail
      go_loopw [12] (fun i wr => ∃ k : Nat, k ≤ q ∧ i = .int .i64 k ∧ Row wr w.heap.size r (bs.drop k) F ∧ OwnI wr B (.slice ab bs.length cb) bs ∧ OwnI wr B2 (.slice af q cf) (bs.take q) ∧ Below w.heap.size w wr) (fun i _ => q - (intOf i).toNat)
      case atStart => exact ⟨0, by omega, rfl, hr0, hown, hfew, hst⟩
      case round =>
        clear hr0 hown hfew hst
        obtain ⟨k, hk, rfl, hr, hown, hfew, hst⟩ := hrel
        by_cases hlt : k < q
        · obtain ⟨b, o, rfl, hat⟩ := IsI.at hfew.isI (by omega)
          have hck := hat k (by omega)
          rw [List.getElem_take] at hck
          have hlb : k < bs.length := by omega
          have hwk := hwf _ (List.getElem_mem hlb)
          have hct := Lib.hid (drop_has k hlb)
          have hsu := Lib.hid (drop_succ HN.out k hlb)
          generalize bs[k] = x at *
          clear hat
          go_wp2_with fail
          refine (drop_any _ _ r _ _ x hr hwk).mono ?_
          rintro e W11 ⟨rfl, hr11, hu11⟩
          rw [hct.out]
          rw [hsu.out] at hr11
          have hst11 := hu11.below hst hst.size (fun q hF => (hr.low q hF).1)
          replace hown := hown.upd hu11 hap
          replace hfew := hfew.upd hu11 haf
          clear hr hst hu11 hck
          go_wp2_with fail
          go_roundw
          case rel => exact ⟨k + 1, by omega, by go_num, hr11, hown, hfew, hst11⟩
          case measure => simp [intOf]; omega
        · obtain rfl : k = q := by omega
          go_wp2_with fail
          go_meet
          exact ⟨hr, hown, hst⟩
    case rest =>
      clear hr hown hst hfew haf hmf hcf hfl
      obtain ⟨hr, hown, hst⟩ := hcut
      have hcut := hown.isI.lo q hqc
      obtain ⟨vc, hvc⟩ : ∃ vc, vc = sliced ab q bs.length cb 1 := ⟨_, rfl⟩
      rw [← hvc] at hcut
      have hdl : (bs.drop q).length = bs.length - q := List.length_drop
      go_wp2_with fail
      have hrD : Row wc.drew w.heap.size r (bs.drop q) F := hr.step (Below.refl _ _).drew
      have hstD := hst.drew
      have hcutD : IsI wc.drew vc (bs.drop q) := hcut.step (Below.refl _ _).drew
      clear hr hst hcut hown hap
      refine Reg.region_ord (S := fun w' => True) [(0, 1), (2, 1), (3, 1), (4, 1), (1, 0), (5, 0), (6, 1)] (by kernel_rfl) (by kernel_rfl) (by decide) (by kernel_rfl) (fun _ _ _ _ _ h => h) ?_
      generalize wc.drew = W at *
      refine Reg.ord_move rfl _ rfl rfl trivial ?_; simp only [Act.put, Act.eval, List.setIfInBounds_toArray, List.set_cons_succ, List.set_cons_zero, Array.getD_eq_getD_getElem?, List.getElem?_toArray, List.getElem?_cons_succ, List.getElem?_cons_zero, Option.getD_some]
      refine Reg.ord_move rfl _ rfl rfl trivial ?_; simp only [Act.put, Act.eval, List.setIfInBounds_toArray, List.set_cons_succ, List.set_cons_zero, Array.getD_eq_getD_getElem?, List.getElem?_toArray, List.getElem?_cons_succ, List.getElem?_cons_zero, Option.getD_some]
      refine Reg.ord_move rfl _ rfl rfl trivial ?_; simp only [Act.put, Act.eval, List.setIfInBounds_toArray, List.set_cons_succ, List.set_cons_zero, Array.getD_eq_getD_getElem?, List.getElem?_toArray, List.getElem?_cons_succ, List.getElem?_cons_zero, Option.getD_some]
      refine Reg.ord_val rfl rfl trivial vc (fun w' _ => by rw [hvc]; exact run_lo _ _ rfl ab bs.length cb q (by simp [Act.eval]) (by simp [Act.eval]) hqc w') ?_; simp only [Act.put, Act.eval, List.setIfInBounds_toArray, List.set_cons_succ, List.set_cons_zero, Array.getD_eq_getD_getElem?, List.getElem?_toArray, List.getElem?_cons_succ, List.getElem?_cons_zero, Option.getD_some]
      refine ord_callx rfl rfl 11 #[ptr r] (by go_simp) (all_any _ _ r _ _ hrD (by omega)) (fun v11 W11 h11 => ⟨trivial, ?_⟩)
      obtain ⟨hown11, hb11⟩ := h11
      replace hrD := hrD.step hb11
      replace hstD := hstD.trans (hb11.mono hstD.size)
      replace hcutD := hcutD.step hb11
      have hI11 := hown11.isI
      clear hb11 hown11
      simp only [Act.put, Act.eval, List.setIfInBounds_toArray, List.set_cons_succ, List.set_cons_zero, Array.getD_eq_getD_getElem?, List.getElem?_toArray, List.getElem?_cons_succ, List.getElem?_cons_zero, Option.getD_some]
      refine Reg.ord_call rfl rfl 15 #[v11, vc] (by go_simp) (numbers_any _ _ _ _ _ hI11 hcutD) (fun W12 hb12 => ⟨trivial, ?_⟩)
      rw [decide_eq_true rfl]
      replace hrD := hrD.step hb12
      replace hstD := hstD.trans (hb12.mono hstD.size)
      clear hb12 hI11 hcutD hvc
      simp only [Act.put, Act.eval, List.setIfInBounds_toArray, List.set_cons_succ, List.set_cons_zero, Array.getD_eq_getD_getElem?, List.getElem?_toArray, List.getElem?_cons_succ, List.getElem?_cons_zero, Option.getD_some]
      refine Reg.ord_assign rfl _ rfl rfl trivial ?_; simp only [Act.put, Act.eval, List.setIfInBounds_toArray, List.set_cons_succ, List.set_cons_zero, Array.getD_eq_getD_getElem?, List.getElem?_toArray, List.getElem?_cons_succ, List.getElem?_cons_zero, Option.getD_some]
      refine Reg.ord_nil ?_
      go_wp2_with fail
      refine (len_any _ _ r _ _ hrD).mono ?_
      rintro e W13 ⟨rfl, rfl⟩
      rw [hdl]
      have hsub : (((bs.length - q : Nat) : Int)) = (bs.length : Int) - q := by omega
      rw [hsub]
      clear hdl hsub
      go_wp2_with fail
      go_loopg [14, 15] (bs.length - q) (fun g s14 s15 wr => ∃ k : Nat, k ≤ bs.length ∧ g = bs.length - k ∧ Row wr w.heap.size r (bs.drop k) F ∧ Below w.heap.size w wr)
      case atStart => exact ⟨q, hqc, rfl, hrD, hstD⟩
      case round =>
        clear hrD hstD
        obtain ⟨k, hk, rfl, hr, hst⟩ := hrel
        have hdl : (bs.drop k).length = bs.length - k := List.length_drop
        by_cases hlt : k < bs.length
        · have hdl2 : (bs.drop (k + 1)).length = bs.length - k - 1 := by rw [List.length_drop]; omega
          have hone := take_one k hlt
          have hwk := hwf _ (List.getElem_mem hlt)
          have hct := Lib.hid (drop_has k hlt)
          have hsu := Lib.hid (drop_succ HN.out k hlt)
          generalize bs[k] = x at *
          have HO := Lib.hid hone
          have HL := Lib.hid hdl
          have HL2 := Lib.hid hdl2
          clear hone hdl2
          go_wp2_with fail
          refine (len_any _ _ r _ _ hr).mono ?_
          rintro e W13 ⟨rfl, rfl⟩
          rw [HL.out]
          obtain ⟨d, hd⟩ : ∃ d, d = bs.length - k := ⟨_, rfl⟩
          have hd0 : 0 < d := by omega
          have hd50 : d ≤ 50 := by omega
          rw [← hd] at HL HL2 hdl ⊢
          have HD := Lib.hid hd
          clear hd
          go_wp2_with fail
          refine (len_any _ _ r _ _ hr).mono ?_
          rintro e W13 ⟨rfl, rfl⟩
          rw [HL.out]
          go_wp2_with fail
          refine (oldest_any _ _ r _ _ 1 hr (by omega)).mono ?_
          rintro e W14 ⟨v14, rfl, hown14, hb14⟩
          rw [HO.out] at hown14
          replace hr := hr.step hb14
          replace hst := hst.trans (hb14.mono hst.size)
          clear hb14
          obtain ⟨a4, c4, rfl, _, hc4⟩ := hown14.isI.form
          obtain ⟨b, o, rfl, hat⟩ := IsI.at hown14.isI (by simp)
          have hck := hat 0 (by simp)
          clear hat hown14
          rw [show ([x] : List Int).length = 1 from rfl] at hc4 ⊢
          have hck : W14.cell? ⟨b, o, none⟩ = some (.int .i64 x) := hck
          go_wp2_with fail
          refine (drop_any _ _ r _ _ x hr hwk).mono ?_
          rintro e W15 ⟨rfl, hr15, hu15⟩
          rw [hct.out]
          rw [hsu.out] at hr15
          have hst15 := hu15.below hst hst.size (fun q hF => (hr.low q hF).1)
          clear hr hst hu15 hck
          go_wp2_with fail
          refine (len_any _ _ r _ _ hr15).mono ?_
          rintro e W13 ⟨rfl, rfl⟩
          rw [HL2.out]
          rw [show ((d - 1 : Nat) : Int) = (d : Int) - 1 by omega]
          go_wp2_with fail
          go_roundg (bs.length - (k + 1))
          case measure => have := HD.out; omega
          case rel => exact ⟨k + 1, by omega, rfl, hr15, hst15⟩
        · obtain rfl : k = bs.length := by omega
          rw [Nat.sub_self] at hdl
          have HL := Lib.hid hdl
          rw [List.drop_length] at hr
          clear hdl
          go_wp2_with fail
          refine (len_any _ _ r _ _ hr).mono ?_
          rintro e W13 ⟨rfl, rfl⟩
          rw [show ([] : List Int).length = 0 from rfl]
          go_wp2_with fail
          refine (all_any _ _ r _ _ hr (by simp)).mono ?_
          rintro e W14 ⟨v14, rfl, hown14, hb14⟩
          replace hst := hst.trans (hb14.mono hst.size)
          obtain ⟨a4, c4, rfl, _, hc4⟩ := hown14.isI.form
          clear hb14 hown14 hr
          go_wp2_with fail
          exact ret_tmp rfl _ rfl rfl ⟨rfl, hst⟩
/-! ### The row's step -/
set_option maxRecDepth 100000 in
theorem lifted (os : Os) (started : os.Started) (H : Type) (enc : TypeId × Value → H) :
    ReturnsInHanded {} Try.checked os 6 .any (Rows.recencyOldestSpec.pre6 enc Try.prog Try.f6 Rows.recencyOldestRow.domain false) (Rows.recencyOldestSpec.post enc Try.prog Try.f6 false true false false) := by
  refine returnsInHanded_of_change (C := Try.checked) own started (by kernel_rfl) Try.func6
    (ChangeSpec.witness6 (enc := enc) (C := Try.checked) false ⟨#[], #[.slice none 0 0, .int .i64 0], []⟩ 8 (by kernel_rfl) (by kernel_rfl) (by kernel_rfl) (by kernel_rfl)) ?_
  intro W base args ds gs before hval0 hW hcnd _
  have hval : ∀ (j : Nat) t v, Try.f6.params[j]? = some t → args[j]? = some v → Value.okWide Try.prog W .any base t v := hval0
  have hW' := hW
  obtain ⟨p, q, hA0, hV, rfl, hfz, hnd⟩ := hW
  have hA : DataW.TrodAll enc Try.prog W 0 (fun _ => true) true Try.f6.params.toList args.toList ds p := hA0
  rw [Try.params6] at hA hval
  obtain ⟨v0, vs0, d0, ds0, p0, q0, hargs, rfl, rfl, h0, r0⟩ := trodAll_cons hA
  obtain ⟨v1, vs1, d1, ds1, p1, q1, rfl, rfl, rfl, h1, r1⟩ := trodAll_cons r0
  obtain ⟨rfl, rfl, rfl⟩ := trodAll_nil r1
  obtain rfl : args = #[v0, v1] := by cases args; simp_all
  obtain ⟨rfl, rfl⟩ := trodVars_none hV
  have k0 := h0
  have lt0 : ∀ x ∈ p0, x.block < W.heap.size := by obtain ⟨m, hm⟩ := k0; exact DataW.trod_lt m _ _ _ hm
  obtain ⟨x0, hs0⟩ := open_is (hval 0 22 v0 rfl rfl) k0
  have k1 := h1
  clear h1
  obtain ⟨x1, rfl, rfl, rfl, w1⟩ := open_int Try.underlying3 (hval 1 3 v1 rfl rfl) k1
  clear hA0 hval0
  refine (walk v0 x0 x1 W hs0).mono fun e W' ⟨he, bel⟩ => ?_
  subst he
  exact ⟨_, rfl, _, _, _, [], _, [], hW', trodAll_mk1 (shut_bool Try.underlying4 _), (trodAll_cons_mk (Below.trod laidOut (by kernel_rfl) (of_decide_eq_true (by kernel_rfl)) k0 bel lt0) (trodAll_cons_mk (shut_int Try.underlying3 w1) trodAll_mk0)), rfl, bel.frame _, fun h => by cases h⟩

theorem over : Rows.recencyOldestRow.holds Try.pinned (OpenSpec.ofChange Rows.recencyOldestSpec) :=
  OpenClaim.holds_of_wide 6 Try.f6 rfl rfl rfl rfl rfl rfl rfl ⟨rfl, rfl, rfl, rfl, rfl⟩ rfl rfl rfl rfl rfl (by kernel_rfl) Try.func6 (by kernel_rfl)
    (of_decide_eq_true (by kernel_rfl)) (by unfold Func.isWrapper; first | (rw [if_pos (by decide +kernel)]; kernel_rfl) | (rw [if_neg (by decide +kernel)]; exact ⟨rfl, rfl⟩))
    (fun os started H enc _ => lifted os started H enc)

/-- The statement. -/
theorem proved : Rows.RecencyOldestSaid := over
#print axioms proved
end Go.Proofs.Ytbbdbcgmeffchaa.oldest
