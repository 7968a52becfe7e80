/- RecencyPlays: each call does what the document says: any steps. The statement holds as it stands: no condition. -/
import Derived.Test.YtbbdbcgmeffchaaState
import Derived.Deep.CutBlock
import Derived.Deep.LoopGhost
namespace Go.Proofs.Ytbbdbcgmeffchaa.plays
open Go.RowKit Go.ChangeShapes Go.WideShapes Go.ChangeAt
set_option linter.unusedSimpArgs false
set_option maxRecDepth 100000 in
set_option maxHeartbeats 4000000 in
theorem walk (v : Value) (l : List (Int × Int)) (w : World) (hs : IsOps w v l ∧ ∀ q ∈ l, wf64 q.2) :
    Calls Try.prog 7 #[v] w fun e w' => e = .returned (.bool true) ∧ Below w.heap.size w w' := by
  obtain ⟨hs, hwf⟩ := hs
  obtain ⟨a, c, rfl, hm, hc⟩ := hs.form
  unfold maxLen at hm
  go_enter Try.func7, Try.ntmps7
  go_wp2_with fail
  refine (shown_any _).mono ?_
  rintro e W6 ⟨rfl, hst⟩
  go_wp2_with fail
  refine (new_any _).mono ?_
  rintro e W7 ⟨r0, F7, rfl, hr, hb7⟩
  replace hr := Row.down hr hst.size
  replace hst := hst.trans (hb7.mono hst.size)
  clear hb7
  go_wp2_with fail
  refine (rnew_any _).mono ?_
  rintro e W8 ⟨g, G8, rfl, hg, hb8⟩
  have hS : St w W8 r0 g [] [] F7 G8 (.pointer none) (.pointer none) := by
    refine ⟨hr.step hb8, hg.down hst.size, fun k hk hG => ?_, .inl ⟨rfl, rfl⟩, hst.trans (hb8.mono hst.size)⟩
    have := (hr.low k hk).2
    have := (hg.low k hG).1
    omega
  clear hr hg hb8 hst
  go_upto_block 0 with fail
  go_cut [4, 6, 7, 8, 9, 10, 11, 12, 13, 14, 15] from 21 to 125 (fun s4 s6 s7 s8 s9 s10 s11 s12 s13 s14 s15 wx => ∃ r bs F G, s4 = ptr r ∧ bs.length ≤ 200 ∧ St w wx r g bs bs F G s6 s7)
  case first =>
    go_wp2_with fail
    go_loopg [4, 6, 7, 8] 200 (fun gh s4 s6 s7 i wr => ∃ (k : Nat) (r : Nat) (bs : List Int) (F G : Nat → Prop), k ≤ l.length ∧ k ≤ 200 ∧ gh = 200 - k ∧ i = .int .i64 k ∧ s4 = ptr r ∧ bs.length ≤ k ∧ St w wr r g bs bs F G s6 s7)
    case atStart => exact ⟨0, r0, [], F7, G8, by omega, by omega, rfl, rfl, rfl, by simp, hS⟩
    case round =>
      clear hS
      obtain ⟨k, r, bs, F, G, hk, hk200, rfl, rfl, rfl, hbl, hS⟩ := hrel
      by_cases hlt : k < l.length ∧ k < 200
      · obtain ⟨hlt, hl200⟩ := hlt
        obtain ⟨b, o, rfl, hat⟩ := IsOps.at hs (by omega)
        obtain ⟨hc1, hc2⟩ := hat k hlt
        replace hc1 := Below.at hS.low hc1
        replace hc2 := Below.at hS.low hc2
        have hwk := hwf _ (List.getElem_mem hlt)
        have hl200z : (k : Int) < 200 := by omega
        generalize l[k] = q at *
        obtain ⟨kd, n⟩ := q
        simp only at hc1 hc2 hwk
        clear hat
        go_upto_block 2 with fail
        clear hc1 hc2
        go_cut [4, 6, 7, 10, 11, 12] from 21 to 125 (fun s4 s6 s7 s10 s11 s12 wx => ∃ r bs F G, s4 = ptr r ∧ s10 = .bool true ∧ bs.length ≤ k + 1 ∧ St w wx r g bs bs F G s6 s7)
        case first =>
          have hfl : (bs.filter (· != n)).length ≤ k := Nat.le_trans (List.length_filter_le _ _) hbl
          have hHF := Lib.hid hfl
          clear hfl
          by_cases h1 : kd = 1
          · subst h1
            obtain ⟨t, ht⟩ : ∃ t, t = bs.contains n := ⟨_, rfl⟩
            have HT := Lib.hid ht
            clear ht
            go_wp2_with fail
            refine (drop_any _ _ r _ _ n hS.row hwk).mono ?_
            rintro e W9 ⟨rfl, hr9, hu9⟩
            rw [← HT.out]
            replace hS := hS.onRow hr9 (New.refl _ _) hu9
            clear hr9 hu9
            go_wp2_with fail
            refine (rdrop_any _ _ g _ _ n hS.ref (by omega)).mono ?_
            rintro e W10 ⟨rfl, ⟨G10, hr10, hG10⟩, hu10⟩
            rw [← HT.out]
            replace hS := hS.onRef hr10 hG10 hu10
            clear hr10 hG10 hu10
            go_wp2_with fail
            go_meet
            exact ⟨r, _, F, G10, rfl, rfl, by have := hHF.out; omega, hS⟩
          · have h1b : (kd == 1) = false := by simpa using h1
            by_cases h2 : kd = 2
            · subst h2
              clear h1 h1b
              obtain ⟨t, ht⟩ : ∃ t, t = bs.contains n := ⟨_, rfl⟩
              have HT := Lib.hid ht
              clear ht
              go_wp2_with fail
              refine (has_any _ _ r _ _ n hS.row hwk).mono ?_
              rintro e W9 ⟨rfl, rfl⟩
              rw [← HT.out]
              go_wp2_with fail
              refine (rhas_any _ _ g _ _ n hS.ref).mono ?_
              rintro e W10 ⟨rfl, rfl⟩
              rw [← HT.out]
              go_wp2_with fail
              go_meet
              exact ⟨r, bs, F, G, rfl, rfl, by omega, hS⟩
            · have h2b : (kd == 2) = false := by simpa using h2
              by_cases h3 : kd = 3
              · subst h3
                clear h1 h1b h2 h2b
                go_wp2_with fail
                refine (oldest_any _ _ r _ _ n hS.row (by omega)).mono ?_
                rintro e W9 ⟨v9, rfl, hown9, hb9⟩
                obtain ⟨fs, hfs⟩ : ∃ fs, fs = bs.take n.toNat := ⟨_, rfl⟩
                have HFS := Lib.hid hfs
                rw [← hfs] at hown9
                clear hfs
                obtain ⟨a9, c9, rfl, hm9, hc9⟩ := hown9.isI.form
                unfold maxLen at hm9
                go_wp2_with fail
                refine (roldest_any _ _ g _ _ n (hS.ref.step hb9) (by omega)).mono ?_
                rintro e W10 ⟨v10, rfl, hown10, hb10⟩
                rw [← HFS.out] at hown10
                replace hown9 := hown9.step hb10
                replace hb9 := hb9.trans (hb10.mono hb9.size)
                have hI10 := hown10.isI
                clear hown10 hb10
                go_wp2_with fail
                refine (numbers_any _ _ _ _ _ hown9.isI hI10).mono ?_
                rintro e W11 ⟨rfl, hb11⟩
                rw [decide_eq_true rfl]
                replace hown9 := hown9.step hb11
                replace hb9 := hb9.trans (hb11.mono hb9.size)
                clear hb11 hI10
                have hN : OwnN W11 wr.heap.size (.slice a9 fs.length c9) fs.length := ⟨fs, rfl, hown9⟩
                clear hown9
                generalize fs.length = L at *
                obtain ⟨wo, rfl⟩ : ∃ wo : World, wo = wr := ⟨_, rfl⟩
                go_wp2_with fail
                go_loopg [12] L (fun gh i wr => ∃ j : Nat, j ≤ L ∧ gh = L - j ∧ i = .int .i64 j ∧ OwnN wr wo.heap.size (.slice a9 L c9) L ∧ Below wo.heap.size wo wr)
                case atStart => exact ⟨0, by omega, rfl, rfl, hN, hb9⟩
                case round =>
                  clear hN hb9
                  obtain ⟨j, hj, rfl, rfl, hN, hb9⟩ := hrel
                  by_cases hlj : j < L
                  · obtain ⟨b9, old, rfl, hold, hfz, hlay⟩ := hN.lay hlj
                    obtain ⟨hN', hb'⟩ := hlay 77
                    have hb9' := hb9.trans hb'
                    clear hN hb9 hb' hlay
                    go_wp2_with (with_reducible refine wl_st rfl size3 _ _ rfl ⟨b9, j, none⟩ (.int .i64 77) old rfl rfl rfl hold hfz ?_; go_frame)
                    go_roundg (L - (j + 1))
                    case measure => omega
                    case rel => exact ⟨j + 1, by omega, rfl, by go_num, hN', hb9'⟩
                  · obtain rfl : j = L := by omega
                    replace hS := hS.step hb9
                    go_wp2_with fail
                    go_meet
                    exact ⟨r, bs, F, G, rfl, rfl, by omega, hS⟩
              · have h3b : (kd == 3) = false := by simpa using h3
                by_cases h4 : kd = 4
                · subst h4
                  clear h1 h1b h2 h2b h3 h3b
                  go_wp2_with fail
                  refine (rclone_any _ _ g _ _ hS.ref (by omega)).mono ?_
                  rintro e W9 ⟨g9, G9, rfl, hg9, hb9⟩
                  go_wp2_with fail
                  refine (clone_any _ _ r _ _ (hS.step hb9).row (by omega)).mono ?_
                  rintro e W10 ⟨r10, F10, rfl, hr10, hb10⟩
                  replace hS := hS.cloned (by omega) hg9 hb9 hr10 hb10
                  clear hg9 hb9 hr10 hb10
                  go_wp2_with fail
                  go_meet
                  exact ⟨r10, bs, F10, G, rfl, rfl, by omega, hS⟩
                · have h4b : (kd == 4) = false := by simpa using h4
                  go_wp2_with fail
                  refine (touch_any _ _ r _ _ n hS.row hwk (by omega)).mono ?_
                  rintro e W9 ⟨rfl, ⟨F9, hr9, hF9⟩, hu9⟩
                  replace hS := hS.onRow hr9 hF9 hu9
                  clear hr9 hF9 hu9
                  go_wp2_with fail
                  refine (rtouch_any _ _ g _ _ n hS.ref (by omega)).mono ?_
                  rintro e W10 ⟨rfl, ⟨G10, hr10, hG10⟩, hu10⟩
                  replace hS := hS.onRef hr10 hG10 hu10
                  clear hr10 hG10 hu10
                  go_wp2_with fail
                  go_meet
                  exact ⟨r, _, F9, G10, rfl, rfl, by have := hHF.out; rw [List.length_append, List.length_singleton]; omega, hS⟩
        case rest =>
          clear hS hbl
          obtain ⟨r, bs, F, G, rfl, rfl, hbl, hS⟩ := hcut
          obtain ⟨vg, hg⟩ := hS.ref
          have hgc := hg.cell
          have hgI := hg.own.isI
          obtain ⟨ag, cg, rfl, hmg, hcg⟩ := hgI.form
          unfold maxLen at hmg
          clear hg
          go_wp2_with fail
          have hSD : St w wc.drew r g bs bs F G u6 u7 := hS.step (Below.refl _ _).drew
          have hgcD : wc.drew.cell? ⟨g, 0, none⟩ = some (.slice ag bs.length cg) := hgc
          have hgID : IsI wc.drew (.slice ag bs.length cg) bs := hgI.step (Below.refl _ _).drew
          clear hS hgc hgI
          refine Reg.region_ord (S := fun w' => w'.cell? ⟨g, 0, none⟩ = some (.slice ag bs.length cg)) [(0, 1), (1, 1), (2, 1), (3, 1), (4, 1), (5, 1), (6, 1), (7, 1), (9, 1), (10, 1), (11, 1), (12, 1), (13, 1), (8, 0), (14, 1), (15, 1)] (by kernel_rfl) (by kernel_rfl) (by decide) (by kernel_rfl) (fun _ _ _ _ _ h => h) ?_
          generalize wc.drew = W at *
          refine Reg.ord_move rfl _ rfl rfl hgcD ?_; simp only [Act.put, Act.eval, List.setIfInBounds_toArray, List.set_cons_succ, List.set_cons_zero, Array.getD_eq_getD_getElem?, List.getElem?_toArray, List.getElem?_cons_succ, List.getElem?_cons_zero, Option.getD_some]
          refine Reg.ord_val rfl rfl hgcD (.bool false) (fun w' _ => by go_simp) ?_; simp only [Act.put, Act.eval, List.setIfInBounds_toArray, List.set_cons_succ, List.set_cons_zero, Array.getD_eq_getD_getElem?, List.getElem?_toArray, List.getElem?_cons_succ, List.getElem?_cons_zero, Option.getD_some]
          refine Reg.ord_move rfl _ rfl rfl hgcD ?_; simp only [Act.put, Act.eval, List.setIfInBounds_toArray, List.set_cons_succ, List.set_cons_zero, Array.getD_eq_getD_getElem?, List.getElem?_toArray, List.getElem?_cons_succ, List.getElem?_cons_zero, Option.getD_some]
          refine Reg.ord_move rfl _ rfl rfl hgcD ?_; simp only [Act.put, Act.eval, List.setIfInBounds_toArray, List.set_cons_succ, List.set_cons_zero, Array.getD_eq_getD_getElem?, List.getElem?_toArray, List.getElem?_cons_succ, List.getElem?_cons_zero, Option.getD_some]
          refine Reg.ord_val rfl rfl hgcD (.bool false) (fun w' _ => by go_simp) ?_; simp only [Act.put, Act.eval, List.setIfInBounds_toArray, List.set_cons_succ, List.set_cons_zero, Array.getD_eq_getD_getElem?, List.getElem?_toArray, List.getElem?_cons_succ, List.getElem?_cons_zero, Option.getD_some]
          refine Reg.ord_pick rfl _ _ _ rfl rfl hgcD false (by simp [Act.eval]) ?_; simp only [Act.put, Act.eval, List.setIfInBounds_toArray, List.set_cons_succ, List.set_cons_zero, Array.getD_eq_getD_getElem?, List.getElem?_toArray, List.getElem?_cons_succ, List.getElem?_cons_zero, Option.getD_some]
          refine Reg.ord_move rfl _ rfl rfl hgcD ?_; simp only [Act.put, Act.eval, List.setIfInBounds_toArray, List.set_cons_succ, List.set_cons_zero, Array.getD_eq_getD_getElem?, List.getElem?_toArray, List.getElem?_cons_succ, List.getElem?_cons_zero, Option.getD_some]
          refine Reg.ord_move rfl _ rfl rfl hgcD ?_; simp only [Act.put, Act.eval, List.setIfInBounds_toArray, List.set_cons_succ, List.set_cons_zero, Array.getD_eq_getD_getElem?, List.getElem?_toArray, List.getElem?_cons_succ, List.getElem?_cons_zero, Option.getD_some]
          refine Reg.ord_move rfl _ rfl rfl hgcD ?_; simp only [Act.put, Act.eval, List.setIfInBounds_toArray, List.set_cons_succ, List.set_cons_zero, Array.getD_eq_getD_getElem?, List.getElem?_toArray, List.getElem?_cons_succ, List.getElem?_cons_zero, Option.getD_some]
          refine Reg.ord_val rfl rfl hgcD (ptr g) (fun w' _ => by go_simp) ?_; simp only [Act.put, Act.eval, List.setIfInBounds_toArray, List.set_cons_succ, List.set_cons_zero, Array.getD_eq_getD_getElem?, List.getElem?_toArray, List.getElem?_cons_succ, List.getElem?_cons_zero, Option.getD_some]
          refine Reg.ord_val rfl rfl hgcD (ptr g) (fun w' _ => by go_simp) ?_; simp only [Act.put, Act.eval, List.setIfInBounds_toArray, List.set_cons_succ, List.set_cons_zero, Array.getD_eq_getD_getElem?, List.getElem?_toArray, List.getElem?_cons_succ, List.getElem?_cons_zero, Option.getD_some]
          refine Reg.ord_val rfl rfl hgcD (.slice ag bs.length cg) (fun w' h => run_ld agg22 _ rfl (by simp [Act.eval]) h) ?_; simp only [Act.put, Act.eval, List.setIfInBounds_toArray, List.set_cons_succ, List.set_cons_zero, Array.getD_eq_getD_getElem?, List.getElem?_toArray, List.getElem?_cons_succ, List.getElem?_cons_zero, Option.getD_some]
          refine Reg.ord_val rfl rfl hgcD (.int .i64 bs.length) (fun w' _ => by go_simp) ?_; simp only [Act.put, Act.eval, List.setIfInBounds_toArray, List.set_cons_succ, List.set_cons_zero, Array.getD_eq_getD_getElem?, List.getElem?_toArray, List.getElem?_cons_succ, List.getElem?_cons_zero, Option.getD_some]
          refine Reg.ord_call rfl rfl 14 #[ptr r] (by go_simp) (len_any _ _ r _ _ hSD.row) (fun W' hW => ?_)
          subst hW
          refine ⟨hgcD, ?_⟩
          simp only [Act.put, Act.eval, List.setIfInBounds_toArray, List.set_cons_succ, List.set_cons_zero, Array.getD_eq_getD_getElem?, List.getElem?_toArray, List.getElem?_cons_succ, List.getElem?_cons_zero, Option.getD_some]
          refine Reg.ord_val rfl rfl hgcD (.bool false) (fun w' _ => by go_simp) ?_; simp only [Act.put, Act.eval, List.setIfInBounds_toArray, List.set_cons_succ, List.set_cons_zero, Array.getD_eq_getD_getElem?, List.getElem?_toArray, List.getElem?_cons_succ, List.getElem?_cons_zero, Option.getD_some]
          refine Reg.ord_pick rfl _ _ _ rfl rfl hgcD false (by simp [Act.eval]) ?_; simp only [Act.put, Act.eval, List.setIfInBounds_toArray, List.set_cons_succ, List.set_cons_zero, Array.getD_eq_getD_getElem?, List.getElem?_toArray, List.getElem?_cons_succ, List.getElem?_cons_zero, Option.getD_some]
          refine Reg.ord_nil ?_
          go_wp2_with fail
          refine (all_any _ _ r _ _ hSD.row (by omega)).mono ?_
          rintro e W9 ⟨v9, rfl, hown9, hb9⟩
          obtain ⟨a9, c9, rfl, hm9, hc9⟩ := hown9.isI.form
          have hgc9 := Below.at hb9 hgcD
          have hgI9 := hgID.step hb9
          clear hgcD hgID hm9
          go_wp2_with fail
          refine (numbers_any _ _ _ _ _ hown9.isI hgI9).mono ?_
          rintro e W11 ⟨rfl, hb11⟩
          rw [decide_eq_true rfl]
          replace hown9 := hown9.step hb11
          replace hb9 := hb9.trans (hb11.mono hb9.size)
          clear hb11 hgc9 hgI9 hmg hcg
          have hN : OwnN W11 W.heap.size (.slice a9 bs.length c9) bs.length := ⟨bs, rfl, hown9⟩
          clear hown9
          have HL : ∃ L, L = bs.length := ⟨_, rfl⟩
          obtain ⟨L, hL⟩ := HL
          have hmL : L ≤ 1000 := by omega
          rw [← hL] at hN hc9 ⊢
          clear hL
          go_wp2_with fail
          go_loopg [15] L (fun gh i wr => ∃ j : Nat, j ≤ L ∧ gh = L - j ∧ i = .int .i64 j ∧ OwnN wr W.heap.size (.slice a9 L c9) L ∧ Below W.heap.size W wr)
          case atStart => exact ⟨0, by omega, rfl, rfl, hN, hb9⟩
          case round =>
            clear hN hb9
            obtain ⟨j, hj, rfl, rfl, hN, hb9⟩ := hrel
            by_cases hlj : j < L
            · obtain ⟨b9, old, rfl, hold, hfz, hlay⟩ := hN.lay hlj
              obtain ⟨hN', hb'⟩ := hlay 77
              have hb9' := hb9.trans hb'
              clear hN hb9 hb' hlay
              go_wp2_with (with_reducible refine wl_st rfl size3 _ _ rfl ⟨b9, j, none⟩ (.int .i64 77) old rfl rfl rfl hold hfz ?_; go_frame)
              go_roundg (L - (j + 1))
              case measure => omega
              case rel => exact ⟨j + 1, by omega, rfl, by go_num, hN', hb9'⟩
            · obtain rfl : j = L := by omega
              replace hSD := hSD.step hb9
              clear hN hb9
              go_wp2_with fail
              go_roundg (200 - (k + 1))
              case measure => omega
              case rel => exact ⟨k + 1, r, bs, F, G, by omega, by omega, rfl, by go_num, rfl, by omega, hSD⟩
      · have hend : l.length ≤ k ∨ 200 ≤ k := by omega
        clear hlt
        go_wp2_with fail
        all_goals
          go_meet
          exact ⟨r, bs, F, G, rfl, by omega, hS⟩
  case rest =>
    clear hS
    obtain ⟨r, bs, F, G, rfl, hbl, hS⟩ := hcut
    clear hs hm hc
    rcases hS.old with ⟨rfl, rfl⟩ | ⟨ro, go, bo, Fo, Go, rfl, rfl, hro, hgo, hbo, _, _, _, _⟩
    · have hlow := hS.low
      clear hS
      go_wp2_with fail
      exact ret_tmp rfl _ rfl rfl ⟨rfl, hlow⟩
    · have hlow := hS.low
      clear hS
      obtain ⟨vg, hg⟩ := hgo
      have hgc := hg.cell
      have hgI := hg.own.isI
      obtain ⟨ag, cg, rfl, hmg, hcg⟩ := hgI.form
      clear hg hmg hcg
      go_wp2_with fail
      have hroD : Row wc.drew w.heap.size ro bo Fo := hro.step (Below.refl _ _).drew
      have hlowD := hlow.drew
      have hgcD : wc.drew.cell? ⟨go, 0, none⟩ = some (.slice ag bo.length cg) := hgc
      have hgID : IsI wc.drew (.slice ag bo.length cg) bo := hgI.step (Below.refl _ _).drew
      clear hro hlow hgc hgI
      refine Reg.region_ord (S := fun w' => w'.cell? ⟨go, 0, none⟩ = some (.slice ag bo.length cg)) [(0, 1), (1, 1), (2, 1), (4, 1), (5, 1), (6, 1), (7, 1), (3, 0), (8, 0), (9, 1), (10, 1)] (by kernel_rfl) (by kernel_rfl) (by decide) (by kernel_rfl) (fun _ _ _ _ _ h => h) ?_
      generalize wc.drew = W at *
      refine Reg.ord_move rfl _ rfl rfl hgcD ?_; simp only [Act.put, Act.eval, List.setIfInBounds_toArray, List.set_cons_succ, List.set_cons_zero, Array.getD_eq_getD_getElem?, List.getElem?_toArray, List.getElem?_cons_succ, List.getElem?_cons_zero, Option.getD_some]
      refine Reg.ord_move rfl _ rfl rfl hgcD ?_; simp only [Act.put, Act.eval, List.setIfInBounds_toArray, List.set_cons_succ, List.set_cons_zero, Array.getD_eq_getD_getElem?, List.getElem?_toArray, List.getElem?_cons_succ, List.getElem?_cons_zero, Option.getD_some]
      refine Reg.ord_move rfl _ rfl rfl hgcD ?_; simp only [Act.put, Act.eval, List.setIfInBounds_toArray, List.set_cons_succ, List.set_cons_zero, Array.getD_eq_getD_getElem?, List.getElem?_toArray, List.getElem?_cons_succ, List.getElem?_cons_zero, Option.getD_some]
      refine Reg.ord_move rfl _ rfl rfl hgcD ?_; simp only [Act.put, Act.eval, List.setIfInBounds_toArray, List.set_cons_succ, List.set_cons_zero, Array.getD_eq_getD_getElem?, List.getElem?_toArray, List.getElem?_cons_succ, List.getElem?_cons_zero, Option.getD_some]
      refine Reg.ord_val rfl rfl hgcD (ptr go) (fun w' _ => by go_simp) ?_; simp only [Act.put, Act.eval, List.setIfInBounds_toArray, List.set_cons_succ, List.set_cons_zero, Array.getD_eq_getD_getElem?, List.getElem?_toArray, List.getElem?_cons_succ, List.getElem?_cons_zero, Option.getD_some]
      refine Reg.ord_val rfl rfl hgcD (ptr go) (fun w' _ => by go_simp) ?_; simp only [Act.put, Act.eval, List.setIfInBounds_toArray, List.set_cons_succ, List.set_cons_zero, Array.getD_eq_getD_getElem?, List.getElem?_toArray, List.getElem?_cons_succ, List.getElem?_cons_zero, Option.getD_some]
      refine Reg.ord_val rfl rfl hgcD (.slice ag bo.length cg) (fun w' h => run_ld agg22 _ rfl (by simp [Act.eval]) h) ?_; simp only [Act.put, Act.eval, List.setIfInBounds_toArray, List.set_cons_succ, List.set_cons_zero, Array.getD_eq_getD_getElem?, List.getElem?_toArray, List.getElem?_cons_succ, List.getElem?_cons_zero, Option.getD_some]
      refine ord_callx rfl rfl 11 #[ptr ro] (by go_simp) (all_any _ _ ro _ _ hroD (by omega)) (fun v9 W9 h9 => ?_)
      obtain ⟨hown9, hb9⟩ := h9
      have hgc9 := Below.at hb9 hgcD
      have hgI9 := hgID.step hb9
      have hlow9 := hlowD.trans (hb9.mono hlowD.size)
      refine ⟨hgc9, ?_⟩
      simp only [Act.put, Act.eval, List.setIfInBounds_toArray, List.set_cons_succ, List.set_cons_zero, Array.getD_eq_getD_getElem?, List.getElem?_toArray, List.getElem?_cons_succ, List.getElem?_cons_zero, Option.getD_some]
      refine Reg.ord_call rfl rfl 15 #[v9, .slice ag bo.length cg] (by go_simp) (numbers_any _ _ _ _ _ hown9.isI hgI9) (fun W11 hb11 => ⟨Below.at hb11 hgc9, ?_⟩)
      rw [decide_eq_true rfl]
      have hlow11 := hlow9.trans (hb11.mono hlow9.size)
      have hgc11 := Below.at hb11 hgc9
      simp only [Act.put, Act.eval, List.setIfInBounds_toArray, List.set_cons_succ, List.set_cons_zero, Array.getD_eq_getD_getElem?, List.getElem?_toArray, List.getElem?_cons_succ, List.getElem?_cons_zero, Option.getD_some]
      refine Reg.ord_pick rfl _ _ _ rfl rfl hgc11 true (by simp [Act.eval]) ?_; simp only [Act.put, Act.eval, List.setIfInBounds_toArray, List.set_cons_succ, List.set_cons_zero, Array.getD_eq_getD_getElem?, List.getElem?_toArray, List.getElem?_cons_succ, List.getElem?_cons_zero, Option.getD_some]
      refine Reg.ord_assign rfl _ rfl rfl hgc11 ?_; simp only [Act.put, Act.eval, List.setIfInBounds_toArray, List.set_cons_succ, List.set_cons_zero, Array.getD_eq_getD_getElem?, List.getElem?_toArray, List.getElem?_cons_succ, List.getElem?_cons_zero, Option.getD_some]
      refine Reg.ord_nil ?_
      go_wp2_with fail
      exact ret_tmp rfl _ rfl rfl ⟨rfl, hlow11⟩
/-! ### The row's step -/
set_option maxRecDepth 100000 in
theorem lifted (os : Os) (started : os.Started) (H : Type) (enc : TypeId × Value → H) :
    ReturnsInHanded {} Try.checked os 7 .any (Rows.recencyPlaysSpec.pre6 enc Try.prog Try.f7 Rows.recencyPlaysRow.domain false) (Rows.recencyPlaysSpec.post enc Try.prog Try.f7 false true false false) := by
  refine returnsInHanded_of_change (C := Try.checked) own started (by kernel_rfl) Try.func7
    (ChangeSpec.witness6 (enc := enc) (C := Try.checked) false ⟨#[], #[.slice none 0 0], []⟩ 8 (by kernel_rfl) (by kernel_rfl) (by kernel_rfl) (by kernel_rfl)) ?_
  intro W base args ds gs before hval0 hW hcnd _
  have hval : ∀ (j : Nat) t v, Try.f7.params[j]? = some t → args[j]? = some v → Value.okWide Try.prog W .any base t v := hval0
  have hW' := hW
  obtain ⟨p, q, hA0, hV, rfl, hfz, hnd⟩ := hW
  have hA : DataW.TrodAll enc Try.prog W 0 (fun _ => true) true Try.f7.params.toList args.toList ds p := hA0
  rw [Try.params7] at hA hval
  obtain ⟨v0, vs0, d0, ds0, p0, q0, hargs, rfl, rfl, h0, r0⟩ := trodAll_cons hA
  obtain ⟨rfl, rfl, rfl⟩ := trodAll_nil r0
  obtain rfl : args = #[v0] := by cases args; simp_all
  obtain ⟨rfl, rfl⟩ := trodVars_none hV
  have k0 := h0
  have lt0 : ∀ x ∈ p0, x.block < W.heap.size := by obtain ⟨m, hm⟩ := k0; exact DataW.trod_lt m _ _ _ hm
  obtain ⟨x0, hs0⟩ := open_ops (hval 0 33 v0 rfl rfl) k0
  clear hA0 hval0
  refine (walk v0 x0 W hs0).mono fun e W' ⟨he, bel⟩ => ?_
  subst he
  exact ⟨_, rfl, _, _, _, [], _, [], hW', trodAll_mk1 (shut_bool Try.underlying4 _), (trodAll_cons_mk (Below.trod laidOut (by kernel_rfl) (of_decide_eq_true (by kernel_rfl)) k0 bel lt0) trodAll_mk0), rfl, bel.frame _, fun h => by cases h⟩

theorem over : Rows.recencyPlaysRow.holds Try.pinned (OpenSpec.ofChange Rows.recencyPlaysSpec) :=
  OpenClaim.holds_of_wide 7 Try.f7 rfl rfl rfl rfl rfl rfl rfl ⟨rfl, rfl, rfl, rfl, rfl⟩ rfl rfl rfl rfl rfl (by kernel_rfl) Try.func7 (by kernel_rfl)
    (of_decide_eq_true (by kernel_rfl)) (by unfold Func.isWrapper; first | (rw [if_pos (by decide +kernel)]; kernel_rfl) | (rw [if_neg (by decide +kernel)]; exact ⟨rfl, rfl⟩))
    (fun os started H enc _ => lifted os started H enc)

/-- The statement. -/
theorem proved : Rows.RecencyPlaysSaid := over
#print axioms proved
end Go.Proofs.Ytbbdbcgmeffchaa.plays
