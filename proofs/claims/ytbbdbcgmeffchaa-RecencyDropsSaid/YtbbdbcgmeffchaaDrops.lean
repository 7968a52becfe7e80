/- RecencyDrops: who is dropped leaves the others as they stand; touched again it is the newest. The statement holds as it stands: no condition. -/
import Derived.Test.YtbbdbcgmeffchaaOwn
import Derived.Deep.CutBlock
namespace Go.Proofs.Ytbbdbcgmeffchaa.drops
open Go.RowKit Go.ChangeShapes Go.WideShapes Go.ChangeAt
set_option linter.unusedSimpArgs false
set_option maxRecDepth 100000 in
set_option maxHeartbeats 4000000 in
theorem walk (v : Value) (l : List Int) (u : Value) (D : List Int) (w : World) (hs : IsI w v l ∧ ∀ x ∈ l, wf64 x) (hd : IsI w u D ∧ ∀ x ∈ D, wf64 x) :
    Calls Try.prog 4 #[v, u] w fun e w' => e = .returned (.bool true) ∧ Below w.heap.size w w' := by
  obtain ⟨hs, hwf⟩ := hs
  obtain ⟨a, c, rfl, hm, hc⟩ := hs.form
  unfold maxLen at hm
  obtain ⟨hd, hwd⟩ := hd
  obtain ⟨ad, cd, rfl, hmd, hcd⟩ := hd.form
  unfold maxLen at hmd
  go_enter Try.func4, Try.ntmps4
  go_wp2_with fail
  refine (shown_any _).mono ?_
  rintro e W6 ⟨rfl, hst⟩
  go_wp2_with fail
  refine (new_any _).mono ?_
  rintro e W7 ⟨r, F7, rfl, hr, hb7⟩
  replace hr := Row.down hr hst.size
  replace hst := hst.trans (hb7.mono hst.size)
  clear hb7
  go_upto_block 0 with fail
  go_cut [7] from 20 to 35 (fun s7 wx => ∃ bs F, Row wx w.heap.size r bs F ∧ bs.Nodup ∧ bs.length ≤ 100 ∧ Below w.heap.size w wx)
  case first =>
    go_wp2_with fail
    go_loopw [7] (fun i wr => ∃ k : Nat, k ≤ l.length ∧ k ≤ 100 ∧ i = .int .i64 k ∧ (∃ F, Row wr w.heap.size r (rowOf (l.take k)) F) ∧ Below w.heap.size w wr) (fun i _ => 100 - (intOf i).toNat)
    case atStart => exact ⟨0, by omega, by omega, rfl, ⟨F7, hr⟩, hst⟩
    case round =>
      clear hr hst
      obtain ⟨k, hk, hk100, rfl, ⟨F, hr⟩, hst'⟩ := hrel
      by_cases hlt : k < l.length ∧ k < 100
      · obtain ⟨hlt, hl100⟩ := hlt
        obtain ⟨b, o, rfl, hat⟩ := IsI.at hs (by omega)
        have hck := Below.at hst' (hat k hlt)
        have hwk := hwf _ (List.getElem_mem hlt)
        have hlen := rowOf_len l k hk
        have hsu := Lib.hid (rowOf_succ l k hlt)
        generalize l[k] = x at *
        clear hat
        go_wp2_with fail
        refine (touch_any _ _ r _ _ x hr hwk (by omega)).mono ?_
        rintro e W8 ⟨rfl, ⟨F8, hr8, _⟩, hu8⟩
        have hst8 := hu8.below hst' hst'.size (fun q hF => (hr.low q hF).1)
        have hr8' : Row W8 w.heap.size r (rowOf (l.take (k + 1))) F8 := by rw [hsu.out]; exact hr8
        clear hr hst' hu8 hr8 hck
        go_wp2_with fail
        go_roundw
        case rel => exact ⟨k + 1, by omega, by omega, by go_num, ⟨F8, hr8'⟩, hst8⟩
        case measure => simp [intOf]; omega
      · have hlen := rowOf_len l k hk
        have hend : l.length ≤ k ∨ 100 ≤ k := by omega
        have hnd := Lib.hid (rowOf_nodup l k hk)
        clear hlt
        generalize rowOf (l.take k) = bs at *
        go_wp2_with fail
        all_goals
          go_meet
          exact ⟨bs, F, hr, hnd.out, by omega, hst'⟩
  case rest =>
    clear hr hst hs hm hc
    obtain ⟨bs, F, hr, hnd, hb100, hst⟩ := hcut
    have hwf := hr.wf
    have HN := Lib.hid hnd
    clear hnd
    go_wp2_with fail
    refine (all_any _ _ r _ _ hr (by omega)).mono ?_
    rintro e W8 ⟨v8, rfl, hown, hb8⟩
    have hlow := fun k hF => (hr.low k hF).2
    have hst0 := hst
    replace hr := hr.step hb8
    replace hst := hst.trans (hb8.mono hst.size)
    have hap := hown.apart hlow
    clear hb8 
    replace hown := hown.down hst0.size
    clear hst0
    clear HN
    go_upto_block 2 with fail
    go_cut [8, 9, 10, 11, 12, 13] from 38 to 97 (fun s8 s9 s10 s11 s12 s13 wx => ∃ bs, Row wx w.heap.size r bs F ∧ bs.length ≤ 100 ∧ OwnI wx w.heap.size s8 bs ∧ Apart F s8 ∧ Below w.heap.size w wx)
    case first =>
      go_wp2_with fail
      go_loopw [8, 9] (fun s8 i wr => ∃ k : Nat, k ≤ D.length ∧ k ≤ 50 ∧ i = .int .i64 k ∧ ∃ bs, Row wr w.heap.size r bs F ∧ bs.length ≤ 100 ∧ OwnI wr w.heap.size s8 bs ∧ Apart F s8 ∧ Below w.heap.size w wr) (fun _ i _ => 50 - (intOf i).toNat)
      case atStart => exact ⟨0, by omega, by omega, rfl, bs, hr, hb100, hown, hap, hst⟩
      case round =>
        clear hr hb100 hown hap hst hwf hlow
        obtain ⟨k, hk, hk50, rfl, bs, hr, hb100, hown, hap, hst⟩ := hrel
        by_cases hlt : k < D.length ∧ k < 50
        · obtain ⟨hlt, hl50⟩ := hlt
          obtain ⟨b, o, rfl, hat⟩ := IsI.at hd (by omega)
          have hck := Below.at hst (hat k hlt)
          have HCK := Lib.hid (hat k hlt)
          have hwk := hwd _ (List.getElem_mem hlt)
          have hl50z : (k : Int) < 50 := by omega
          generalize D[k] = d at *
          clear hat
          obtain ⟨ab, cb, rfl, hmb, hcb⟩ := hown.isI.form
          unfold maxLen at hmb
          go_wp2_with fail
          obtain ⟨wo, rfl⟩ : ∃ wo : World, wo = wr := ⟨_, rfl⟩
          go_loopw [10, 11] (fun s10 j wr => ∃ j' : Nat, j' ≤ bs.length ∧ j = .int .i64 j' ∧ OwnI wr wo.heap.size s10 ((bs.take j').filter (· != d)) ∧ Below wo.heap.size wo wr) (fun _ j _ => bs.length - (intOf j).toNat)
          case atStart => exact ⟨0, by omega, rfl, OwnI.nil _ _, Below.refl _ _⟩
          case round =>
            obtain ⟨j, hj, rfl, ho10, hbj⟩ := hrel
            by_cases hltj : j < bs.length
            · obtain ⟨b1, o1, rfl, hat1⟩ := IsI.at hown.isI (by omega)
              have hc1 := Below.at hbj.drew (hat1 j hltj)
              have hc2 := Below.at hbj.drew hck
              have hls := filter_take bs d j hltj
              have hbD := hbj.drew
              have ho10D : OwnI wr.drew wo.heap.size u10 _ := ho10
              generalize bs[j] = x at *
              have HS := Lib.hid hls
              clear hat1 hls hbj ho10
              go_wp2_with fail
              refine Reg.region_ord (S := fun w' => w' = wr.drew) [(0, 1), (1, 1), (2, 1), (3, 1), (4, 1), (5, 1), (6, 1), (7, 1), (8, 1)] (by kernel_rfl) (by kernel_rfl) (by decide) (by kernel_rfl) (fun _ _ _ _ _ h => h) ?_
              generalize wr.drew = W at *
              refine Reg.ord_move rfl _ rfl rfl rfl ?_; simp only [Act.put, Act.eval, List.setIfInBounds_toArray, List.set_cons_succ, List.set_cons_zero, Array.getD_eq_getD_getElem?, List.getElem?_toArray, List.getElem?_cons_succ, List.getElem?_cons_zero, Option.getD_some]
              refine Reg.ord_move rfl _ rfl rfl rfl ?_; simp only [Act.put, Act.eval, List.setIfInBounds_toArray, List.set_cons_succ, List.set_cons_zero, Array.getD_eq_getD_getElem?, List.getElem?_toArray, List.getElem?_cons_succ, List.getElem?_cons_zero, Option.getD_some]
              refine Reg.ord_val rfl rfl rfl (.pointer (some ⟨b1, o1 + j, none⟩)) (fun w' _ => by go_simp) ?_; simp only [Act.put, Act.eval, List.setIfInBounds_toArray, List.set_cons_succ, List.set_cons_zero, Array.getD_eq_getD_getElem?, List.getElem?_toArray, List.getElem?_cons_succ, List.getElem?_cons_zero, Option.getD_some]
              refine Reg.ord_val rfl rfl rfl (.int .i64 x) (fun w' h => by subst h; exact run_ld agg3 _ rfl (by simp [Act.eval]) hc1) ?_; simp only [Act.put, Act.eval, List.setIfInBounds_toArray, List.set_cons_succ, List.set_cons_zero, Array.getD_eq_getD_getElem?, List.getElem?_toArray, List.getElem?_cons_succ, List.getElem?_cons_zero, Option.getD_some]
              refine Reg.ord_move rfl _ rfl rfl rfl ?_; simp only [Act.put, Act.eval, List.setIfInBounds_toArray, List.set_cons_succ, List.set_cons_zero, Array.getD_eq_getD_getElem?, List.getElem?_toArray, List.getElem?_cons_succ, List.getElem?_cons_zero, Option.getD_some]
              refine Reg.ord_move rfl _ rfl rfl rfl ?_; simp only [Act.put, Act.eval, List.setIfInBounds_toArray, List.set_cons_succ, List.set_cons_zero, Array.getD_eq_getD_getElem?, List.getElem?_toArray, List.getElem?_cons_succ, List.getElem?_cons_zero, Option.getD_some]
              refine Reg.ord_val rfl rfl rfl (.pointer (some ⟨b, o + k, none⟩)) (fun w' _ => by go_simp) ?_; simp only [Act.put, Act.eval, List.setIfInBounds_toArray, List.set_cons_succ, List.set_cons_zero, Array.getD_eq_getD_getElem?, List.getElem?_toArray, List.getElem?_cons_succ, List.getElem?_cons_zero, Option.getD_some]
              refine Reg.ord_val rfl rfl rfl (.int .i64 d) (fun w' h => by subst h; exact run_ld agg3 _ rfl (by simp [Act.eval]) hc2) ?_; simp only [Act.put, Act.eval, List.setIfInBounds_toArray, List.set_cons_succ, List.set_cons_zero, Array.getD_eq_getD_getElem?, List.getElem?_toArray, List.getElem?_cons_succ, List.getElem?_cons_zero, Option.getD_some]
              refine Reg.ord_val rfl rfl rfl (.bool (x != d)) (fun w' _ => by go_simp) ?_; simp only [Act.put, Act.eval, List.setIfInBounds_toArray, List.set_cons_succ, List.set_cons_zero, Array.getD_eq_getD_getElem?, List.getElem?_toArray, List.getElem?_cons_succ, List.getElem?_cons_zero, Option.getD_some]
              refine Reg.ord_nil ?_
              clear hc2
              by_cases hxy : x = d
              · rw [show (x != d) = false by simpa using hxy]
                have hm' := HS.out
                rw [if_pos hxy, List.append_nil] at hm'
                have HM := Lib.hid hm'
                clear hm' hxy hc1
                go_wp2_with fail
                go_roundw
                case rel => exact ⟨j + 1, by omega, by go_num, by rw [HM.out]; exact ho10D, hbD⟩
                case measure => simp [intOf]; omega
              · rw [show (x != d) = true by simpa using hxy]
                have hm' := HS.out
                rw [if_neg hxy] at hm'
                have HM := Lib.hid hm'
                have hfl : ((bs.take j).filter (· != d)).length ≤ 100 := by
                  refine Nat.le_trans (List.length_filter_le _ _) ?_
                  rw [List.length_take]
                  omega
                have HF := Lib.hid hfl
                clear hm' hxy hfl
                go_wp2_with (at_builtin; refine stop ?_)
                unfold Stop
                have hb4 := below_alloc W (.cells #[.int .i64 x] 3)
                have hw4 := heap_alloc_new W (.cells #[.int .i64 x] 3)
                have hu4 : (W.alloc (.cells #[.int .i64 x] 3)).cell? ⟨W.heap.size, 0, none⟩ = some (.int .i64 x) := by rw [cell_of_row _ _ _ _ _ _ hw4]; rfl
                have hown4 := ho10D.step hb4
                have hst4 := hbD.trans (hb4.mono hbD.size)
                clear ho10D hbD hc1 hb4 hw4
                generalize W.alloc (.cells #[.int .i64 x] 3) = W4 at *
                refine wl_apI rfl _ _ rfl wo.heap.size _ ((bs.take j).filter (· != d)) (by simp [Act.eval]) hown4 W.heap.size (by simp [Act.eval]) x hu4 (by have := HF.out; omega) hst4.size ?_
                intro v5 W5 hown5 hg5
                rw [← HM.out] at hown5
                have hst5 := below_own hst4 hown4 hst4.size hg5
                clear hown4 hst4 hg5 hu4
                go_frame
                go_wp2_with fail
                go_roundw
                case rel => exact ⟨j + 1, by omega, by go_num, hown5, hst5⟩
                case measure => simp [intOf]; omega
            · obtain rfl : j = bs.length := by omega
              rw [List.take_length] at ho10
              have hfc := filter_len bs d
              have hfh := filter_hasnt bs d
              have hfle : (bs.filter (· != d)).length ≤ bs.length := List.length_filter_le _ _
              have hr0 := hr
              have hst0 := hst
              replace hr := hr.step hbj
              replace hst := hst.trans (hbj.mono hst.size)
              have hap10 : Apart F u10 := ho10.apart (fun q hF => (hr0.low q hF).2)
              replace ho10 := ho10.down hst0.size
              replace hck := Below.at hbj hck
              obtain ⟨a1, c1, rfl, hm1, hc1⟩ := ho10.isI.form
              unfold maxLen at hm1
              clear hown hap hbj hst0 hr0
              obtain ⟨fs, hfs⟩ : ∃ fs, fs = bs.filter (· != d) := ⟨_, rfl⟩
              rw [← hfs] at hfc hfh hfle ho10 hc1 hap10 hm1 ⊢
              have HFS := Lib.hid hfs
              clear hfs
              have HH := Lib.hid hfh
              clear hfh
              by_cases hct : bs.contains d = true
              · rw [hct] at hfc
                rw [decide_eq_true_eq] at hfc
                have HC := Lib.hid hct
                clear hct
                go_wp2_with fail
                refine (drop_any _ _ r _ _ d hr hwk).mono ?_
                rintro e W11 ⟨rfl, hr11, hu11⟩
                rw [HC.out]
                rw [← HFS.out] at hr11
                have hst11 := hu11.below hst hst.size (fun q hF => (hr.low q hF).1)
                replace ho10 := ho10.upd hu11 hap10
                have hck11 := Below.at hst11 HCK.out
                clear hr hst hu11 hck
                go_wp2_with fail
                refine (has_any _ _ r _ _ d hr11 hwk).mono ?_
                rintro e W12 ⟨rfl, rfl⟩
                rw [HH.out]
                clear hck11
                go_wp2_with fail
                refine (all_any _ _ r _ _ hr11 (by omega)).mono ?_
                rintro e W13 ⟨v13, rfl, hown13, hb13⟩
                replace hr11 := hr11.step hb13
                replace hst11 := hst11.trans (hb13.mono hst11.size)
                replace ho10 := ho10.step hb13
                have hI13 := hown13.isI
                clear hown13 hb13
                go_wp2_with fail
                refine (numbers_any _ _ _ _ _ hI13 ho10.isI).mono ?_
                rintro e W14 ⟨rfl, hb14⟩
                rw [decide_eq_true rfl]
                replace hr11 := hr11.step hb14
                replace hst11 := hst11.trans (hb14.mono hst11.size)
                replace ho10 := ho10.step hb14
                clear hb14 hI13
                go_wp2_with fail
                go_roundw
                case rel => exact ⟨k + 1, by omega, by omega, by go_num, fs, hr11, by omega, ho10, hap10, hst11⟩
                case measure => simp [intOf]; omega
              · rw [Bool.not_eq_true] at hct
                rw [hct] at hfc
                rw [decide_eq_false_iff_not] at hfc
                have HC := Lib.hid hct
                clear hct
                go_wp2_with fail
                refine (drop_any _ _ r _ _ d hr hwk).mono ?_
                rintro e W11 ⟨rfl, hr11, hu11⟩
                rw [HC.out]
                rw [← HFS.out] at hr11
                have hst11 := hu11.below hst hst.size (fun q hF => (hr.low q hF).1)
                replace ho10 := ho10.upd hu11 hap10
                have hck11 := Below.at hst11 HCK.out
                clear hr hst hu11 hck
                go_wp2_with fail
                refine (has_any _ _ r _ _ d hr11 hwk).mono ?_
                rintro e W12 ⟨rfl, rfl⟩
                rw [HH.out]
                clear hck11
                go_wp2_with fail
                refine (all_any _ _ r _ _ hr11 (by omega)).mono ?_
                rintro e W13 ⟨v13, rfl, hown13, hb13⟩
                replace hr11 := hr11.step hb13
                replace hst11 := hst11.trans (hb13.mono hst11.size)
                replace ho10 := ho10.step hb13
                have hI13 := hown13.isI
                clear hown13 hb13
                go_wp2_with fail
                refine (numbers_any _ _ _ _ _ hI13 ho10.isI).mono ?_
                rintro e W14 ⟨rfl, hb14⟩
                rw [decide_eq_true rfl]
                replace hr11 := hr11.step hb14
                replace hst11 := hst11.trans (hb14.mono hst11.size)
                replace ho10 := ho10.step hb14
                clear hb14 hI13
                go_wp2_with fail
                go_roundw
                case rel => exact ⟨k + 1, by omega, by omega, by go_num, fs, hr11, by omega, ho10, hap10, hst11⟩
                case measure => simp [intOf]; omega
        · have hend : D.length ≤ k ∨ 50 ≤ k := by omega
          clear hlt
          go_wp2_with fail
          all_goals
            go_meet
            exact ⟨bs, hr, hb100, hown, hap, hst⟩
    case rest =>
      clear hr hown hap hst hlow hwf hb100
      obtain ⟨bs, hr, hb100, hown, hap, hst⟩ := hcut
      obtain ⟨ab, cb, rfl, hmb, hcb⟩ := hown.isI.form
      unfold maxLen at hmb
      by_cases hD : D.length = 0
      · rw [hD] at hd hmd hcd ⊢
        go_wp2_with fail
        refine (all_any _ _ r _ _ hr (by omega)).mono ?_
        rintro e W13 ⟨v13, rfl, hown13, hb13⟩
        replace hst := hst.trans (hb13.mono hst.size)
        replace hown := hown.step hb13
        have hI13 := hown13.isI
        clear hown13 hb13 hr
        go_wp2_with fail
        refine (numbers_any _ _ _ _ _ hI13 hown.isI).mono ?_
        rintro e W14 ⟨rfl, hb14⟩
        rw [decide_eq_true rfl]
        replace hst := hst.trans (hb14.mono hst.size)
        clear hb14 hI13
        go_wp2_with fail
        exact ret_tmp rfl _ rfl rfl ⟨rfl, hst⟩
      · obtain ⟨b, o, rfl, hat⟩ := IsI.at hd (by omega)
        have HCK := Lib.hid (hat 0 (by omega))
        have hck := Below.at hst HCK.out
        have hwk := hwd _ (List.getElem_mem (show 0 < D.length by omega))
        generalize D[0] = d at *
        rw [Nat.add_zero] at hck HCK
        have hDp : (0 : Int) < (D.length : Int) := by omega
        clear hat
        go_wp2_with fail
        refine (touch_any _ _ r _ _ d hr hwk (by omega)).mono ?_
        rintro e W10 ⟨rfl, ⟨F10, hr10, hF10⟩, hu10⟩
        have hst10 := hu10.below hst hst.size (fun q hF => (hr.low q hF).1)
        obtain ⟨hown10, hap10⟩ := hown.touched hap hu10 hF10
        have hck10 := Below.at hst10 HCK.out
        clear hr hst hu10 hF10 hown hap hck
        go_wp2_with fail
        obtain ⟨wo, rfl⟩ : ∃ wo : World, wo = W10 := ⟨_, rfl⟩
        go_loopw [14, 15] (fun s10 j wr => ∃ j' : Nat, j' ≤ bs.length ∧ j = .int .i64 j' ∧ OwnI wr wo.heap.size s10 ((bs.take j').filter (· != d)) ∧ Below wo.heap.size wo wr) (fun _ j _ => bs.length - (intOf j).toNat)
        case atStart => exact ⟨0, by omega, rfl, OwnI.nil _ _, Below.refl _ _⟩
        case round =>
          obtain ⟨j, hj, rfl, ho10, hbj⟩ := hrel
          by_cases hltj : j < bs.length
          · obtain ⟨b1, o1, rfl, hat1⟩ := IsI.at hown10.isI (by omega)
            have hc1 := Below.at hbj.drew (hat1 j hltj)
            have hc2 := Below.at hbj.drew hck10
            have hls := filter_take bs d j hltj
            have hbD := hbj.drew
            have ho10D : OwnI wr.drew wo.heap.size u14 _ := ho10
            generalize bs[j] = x at *
            have HS := Lib.hid hls
            clear hat1 hls hbj ho10
            go_wp2_with fail
            refine Reg.region_ord (S := fun w' => w' = wr.drew) [(0, 1), (1, 1), (2, 1), (3, 1), (4, 1), (5, 1), (6, 1), (7, 1)] (by kernel_rfl) (by kernel_rfl) (by decide) (by kernel_rfl) (fun _ _ _ _ _ h => h) ?_
            generalize wr.drew = W at *
            refine Reg.ord_move rfl _ rfl rfl rfl ?_; simp only [Act.put, Act.eval, List.setIfInBounds_toArray, List.set_cons_succ, List.set_cons_zero, Array.getD_eq_getD_getElem?, List.getElem?_toArray, List.getElem?_cons_succ, List.getElem?_cons_zero, Option.getD_some]
            refine Reg.ord_move rfl _ rfl rfl rfl ?_; simp only [Act.put, Act.eval, List.setIfInBounds_toArray, List.set_cons_succ, List.set_cons_zero, Array.getD_eq_getD_getElem?, List.getElem?_toArray, List.getElem?_cons_succ, List.getElem?_cons_zero, Option.getD_some]
            refine Reg.ord_val rfl rfl rfl (.pointer (some ⟨b1, o1 + j, none⟩)) (fun w' _ => by go_simp) ?_; simp only [Act.put, Act.eval, List.setIfInBounds_toArray, List.set_cons_succ, List.set_cons_zero, Array.getD_eq_getD_getElem?, List.getElem?_toArray, List.getElem?_cons_succ, List.getElem?_cons_zero, Option.getD_some]
            refine Reg.ord_val rfl rfl rfl (.int .i64 x) (fun w' h => by subst h; exact run_ld agg3 _ rfl (by simp [Act.eval]) hc1) ?_; simp only [Act.put, Act.eval, List.setIfInBounds_toArray, List.set_cons_succ, List.set_cons_zero, Array.getD_eq_getD_getElem?, List.getElem?_toArray, List.getElem?_cons_succ, List.getElem?_cons_zero, Option.getD_some]
            refine Reg.ord_move rfl _ rfl rfl rfl ?_; simp only [Act.put, Act.eval, List.setIfInBounds_toArray, List.set_cons_succ, List.set_cons_zero, Array.getD_eq_getD_getElem?, List.getElem?_toArray, List.getElem?_cons_succ, List.getElem?_cons_zero, Option.getD_some]
            refine Reg.ord_val rfl rfl rfl (.pointer (some ⟨b, o, none⟩)) (fun w' _ => by go_simp) ?_; simp only [Act.put, Act.eval, List.setIfInBounds_toArray, List.set_cons_succ, List.set_cons_zero, Array.getD_eq_getD_getElem?, List.getElem?_toArray, List.getElem?_cons_succ, List.getElem?_cons_zero, Option.getD_some]
            refine Reg.ord_val rfl rfl rfl (.int .i64 d) (fun w' h => by subst h; exact run_ld agg3 _ rfl (by simp [Act.eval]) hc2) ?_; simp only [Act.put, Act.eval, List.setIfInBounds_toArray, List.set_cons_succ, List.set_cons_zero, Array.getD_eq_getD_getElem?, List.getElem?_toArray, List.getElem?_cons_succ, List.getElem?_cons_zero, Option.getD_some]
            refine Reg.ord_val rfl rfl rfl (.bool (x != d)) (fun w' _ => by go_simp) ?_; simp only [Act.put, Act.eval, List.setIfInBounds_toArray, List.set_cons_succ, List.set_cons_zero, Array.getD_eq_getD_getElem?, List.getElem?_toArray, List.getElem?_cons_succ, List.getElem?_cons_zero, Option.getD_some]
            refine Reg.ord_nil ?_
            clear hc2
            by_cases hxy : x = d
            · rw [show (x != d) = false by simpa using hxy]
              have hm' := HS.out
              rw [if_pos hxy, List.append_nil] at hm'
              have HM := Lib.hid hm'
              clear hm' hxy hc1
              go_wp2_with fail
              go_roundw
              case rel => exact ⟨j + 1, by omega, by go_num, by rw [HM.out]; exact ho10D, hbD⟩
              case measure => simp [intOf]; omega
            · rw [show (x != d) = true by simpa using hxy]
              have hm' := HS.out
              rw [if_neg hxy] at hm'
              have HM := Lib.hid hm'
              have hfl : ((bs.take j).filter (· != d)).length ≤ 100 := by
                refine Nat.le_trans (List.length_filter_le _ _) ?_
                rw [List.length_take]
                omega
              have HF := Lib.hid hfl
              clear hm' hxy hfl
              go_wp2_with (at_builtin; refine stop ?_)
              unfold Stop
              have hb4 := below_alloc W (.cells #[.int .i64 x] 3)
              have hw4 := heap_alloc_new W (.cells #[.int .i64 x] 3)
              have hu4 : (W.alloc (.cells #[.int .i64 x] 3)).cell? ⟨W.heap.size, 0, none⟩ = some (.int .i64 x) := by rw [cell_of_row _ _ _ _ _ _ hw4]; rfl
              have hown4 := ho10D.step hb4
              have hst4 := hbD.trans (hb4.mono hbD.size)
              clear ho10D hbD hc1 hb4 hw4
              generalize W.alloc (.cells #[.int .i64 x] 3) = W4 at *
              refine wl_apI rfl _ _ rfl wo.heap.size _ ((bs.take j).filter (· != d)) (by simp [Act.eval]) hown4 W.heap.size (by simp [Act.eval]) x hu4 (by have := HF.out; omega) hst4.size ?_
              intro v5 W5 hown5 hg5
              rw [← HM.out] at hown5
              have hst5 := below_own hst4 hown4 hst4.size hg5
              clear hown4 hst4 hg5 hu4
              go_frame
              go_wp2_with fail
              go_roundw
              case rel => exact ⟨j + 1, by omega, by go_num, hown5, hst5⟩
              case measure => simp [intOf]; omega
          · obtain rfl : j = bs.length := by omega
            rw [List.take_length] at ho10
            have hckr := Below.at hbj hck10
            have hfle : (bs.filter (· != d)).length ≤ bs.length := List.length_filter_le _ _
            clear hown10 hap10 hck10
            go_wp2_with (at_builtin; refine stop ?_)
            unfold Stop
            have hb4 := below_alloc wr (.cells #[.int .i64 d] 3)
            have hw4 := heap_alloc_new wr (.cells #[.int .i64 d] 3)
            have hu4 : (wr.alloc (.cells #[.int .i64 d] 3)).cell? ⟨wr.heap.size, 0, none⟩ = some (.int .i64 d) := by rw [cell_of_row _ _ _ _ _ _ hw4]; rfl
            have hown4 := ho10.step hb4
            have hst4 := hbj.trans (hb4.mono hbj.size)
            clear ho10 hbj hckr hb4 hw4
            generalize wr.alloc (.cells #[.int .i64 d] 3) = W4 at *
            refine wl_apI rfl _ _ rfl wo.heap.size _ (bs.filter (· != d)) (by simp [Act.eval]) hown4 wr.heap.size (by simp [Act.eval]) d hu4 (by omega) hst4.size ?_
            intro v5 W5 hown5 hg5
            have hst5 := below_own hst4 hown4 hst4.size hg5
            replace hr10 := hr10.step hst5
            replace hst10 := hst10.trans (hst5.mono hst10.size)
            have hl5 : (bs.filter (· != d) ++ [d]).length ≤ 101 := by rw [List.length_append, List.length_singleton]; omega
            generalize bs.filter (· != d) ++ [d] = gs at *
            clear hown4 hst4 hg5 hu4 hst5
            go_frame
            go_wp2_with fail
            refine (all_any _ _ r _ _ hr10 (by omega)).mono ?_
            rintro e W13 ⟨v13, rfl, hown13, hb13⟩
            replace hst10 := hst10.trans (hb13.mono hst10.size)
            replace hown5 := hown5.step hb13
            have hI13 := hown13.isI
            clear hown13 hb13 hr10
            go_wp2_with fail
            refine (numbers_any _ _ _ _ _ hI13 hown5.isI).mono ?_
            rintro e W14 ⟨rfl, hb14⟩
            rw [decide_eq_true rfl]
            replace hst10 := hst10.trans (hb14.mono hst10.size)
            clear hb14 hI13 hown5
            go_wp2_with fail
            exact ret_tmp rfl _ rfl rfl ⟨rfl, hst10⟩
/-! ### The row's step -/
set_option maxRecDepth 100000 in
theorem lifted (os : Os) (started : os.Started) (H : Type) (enc : TypeId × Value → H) :
    ReturnsInHanded {} Try.checked os 4 .any (Rows.recencyDropsSpec.pre6 enc Try.prog Try.f4 Rows.recencyDropsRow.domain false) (Rows.recencyDropsSpec.post enc Try.prog Try.f4 false true false false) := by
  refine returnsInHanded_of_change (C := Try.checked) own started (by kernel_rfl) Try.func4
    (ChangeSpec.witness6 (enc := enc) (C := Try.checked) false ⟨#[], #[.slice none 0 0, .slice none 0 0], []⟩ 8 (by kernel_rfl) (by kernel_rfl) (by kernel_rfl) (by kernel_rfl)) ?_
  intro W base args ds gs before hval0 hW hcnd _
  have hval : ∀ (j : Nat) t v, Try.f4.params[j]? = some t → args[j]? = some v → Value.okWide Try.prog W .any base t v := hval0
  have hW' := hW
  obtain ⟨p, q, hA0, hV, rfl, hfz, hnd⟩ := hW
  have hA : DataW.TrodAll enc Try.prog W 0 (fun _ => true) true Try.f4.params.toList args.toList ds p := hA0
  rw [Try.params4] at hA hval
  obtain ⟨v0, vs0, d0, ds0, p0, q0, hargs, rfl, rfl, h0, r0⟩ := trodAll_cons hA
  obtain ⟨v1, vs1, d1, ds1, p1, q1, rfl, rfl, rfl, h1, r1⟩ := trodAll_cons r0
  obtain ⟨rfl, rfl, rfl⟩ := trodAll_nil r1
  obtain rfl : args = #[v0, v1] := by cases args; simp_all
  obtain ⟨rfl, rfl⟩ := trodVars_none hV
  have k0 := h0
  have lt0 : ∀ x ∈ p0, x.block < W.heap.size := by obtain ⟨m, hm⟩ := k0; exact DataW.trod_lt m _ _ _ hm
  obtain ⟨x0, hs0⟩ := open_is (hval 0 22 v0 rfl rfl) k0
  have k1 := h1
  have lt1 : ∀ x ∈ p1, x.block < W.heap.size := by obtain ⟨m, hm⟩ := k1; exact DataW.trod_lt m _ _ _ hm
  obtain ⟨x1, hs1⟩ := open_is (hval 1 22 v1 rfl rfl) k1
  clear hA0 hval0
  refine (walk v0 x0 v1 x1 W hs0 hs1).mono fun e W' ⟨he, bel⟩ => ?_
  subst he
  exact ⟨_, rfl, _, _, _, [], _, [], hW', trodAll_mk1 (shut_bool Try.underlying4 _), (trodAll_cons_mk (Below.trod laidOut (by kernel_rfl) (of_decide_eq_true (by kernel_rfl)) k0 bel lt0) (trodAll_cons_mk (Below.trod laidOut (by kernel_rfl) (of_decide_eq_true (by kernel_rfl)) k1 bel lt1) trodAll_mk0)), rfl, bel.frame _, fun h => by cases h⟩

theorem over : Rows.recencyDropsRow.holds Try.pinned (OpenSpec.ofChange Rows.recencyDropsSpec) :=
  OpenClaim.holds_of_wide 4 Try.f4 rfl rfl rfl rfl rfl rfl rfl ⟨rfl, rfl, rfl, rfl, rfl⟩ rfl rfl rfl rfl rfl (by kernel_rfl) Try.func4 (by kernel_rfl)
    (of_decide_eq_true (by kernel_rfl)) (by unfold Func.isWrapper; first | (rw [if_pos (by decide +kernel)]; kernel_rfl) | (rw [if_neg (by decide +kernel)]; exact ⟨rfl, rfl⟩))
    (fun os started H enc _ => lifted os started H enc)

/-- The statement. -/
theorem proved : Rows.RecencyDropsSaid := over
#print axioms proved
end Go.Proofs.Ytbbdbcgmeffchaa.drops
