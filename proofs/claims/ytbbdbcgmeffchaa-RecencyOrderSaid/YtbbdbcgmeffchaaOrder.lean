/- RecencyOrder: blocks stand in the order in which each was touched last. The statement holds as it stands: no condition. -/
import Derived.Test.YtbbdbcgmeffchaaPlain3
import Derived.Deep.CutBlock
namespace Go.Proofs.Ytbbdbcgmeffchaa.order
open Go.RowKit Go.ChangeShapes Go.WideShapes Go.ChangeAt
set_option linter.unusedSimpArgs false

/-- The value of the bound on the way through the row. -/
def lastOf (K bs : List Int) : Nat → Int
  | 0 => -1
  | i + 1 => la K (bs.getD i 0) K.length
theorem last_lt {K bs : List Int} (h : bs.Pairwise (fun x y => la K x K.length < la K y K.length)) (h0 : ∀ x ∈ bs, 0 ≤ la K x K.length) (i : Nat) (hi : i < bs.length) : lastOf K bs i < la K bs[i] K.length := by
  match i, hi with
  | 0, hi => exact Int.lt_of_lt_of_le (show (-1 : Int) < 0 by decide) (h0 _ (List.getElem_mem hi))
  | i + 1, hi =>
    have := List.pairwise_iff_getElem.1 h i (i + 1) (by omega) hi (by omega)
    have e : bs.getD i 0 = bs[i] := by rw [List.getD_eq_getElem?_getD, List.getElem?_eq_getElem (by omega)]; rfl
    show la K (bs.getD i 0) K.length < _
    rw [e]
    exact this
set_option maxRecDepth 100000 in
set_option maxHeartbeats 4000000 in
theorem walk (v : Value) (l : List Int) (n : Int) (w : World) (hs : IsI w v l ∧ ∀ x ∈ l, wf64 x) :
    Calls Try.prog 3 #[v, .int .i64 n] w fun e w' => e = .returned (.bool true) ∧ Below w.heap.size w w' := by
  obtain ⟨hs, hwf⟩ := hs
  obtain ⟨a, c, rfl, hm, hc⟩ := hs.form
  unfold maxLen at hm
  have hsK := hs.hi (min l.length 200) (by omega)
  have hKl : (l.take (min l.length 200)).length = min l.length 200 := by rw [List.length_take]; omega
  have hwK : ∀ x ∈ l.take (min l.length 200), wf64 x := fun x hx => hwf x (List.mem_of_mem_take hx)
  obtain ⟨aK, cK, hvK, hmK, hcK⟩ := hsK.form
  rw [hvK] at hsK
  have HV := Lib.hid hvK
  have HK := Lib.hid hKl
  have hK200 : (l.take (min l.length 200)).length ≤ 200 := by omega
  generalize l.take (min l.length 200) = K at *
  clear hs hwf hvK hKl
  go_enter Try.func3, Try.ntmps3
  go_wp2_with fail
  refine (shown_any _).mono ?_
  rintro e W6 ⟨rfl, hst⟩
  have hsK0 := hsK
  replace hsK := hsK.step hst
  go_wp2_with fail
  refine (new_any _).mono ?_
  rintro e W7 ⟨r, F7, rfl, hr, hb7⟩
  replace hr := Row.down hr hst.size
  replace hst := hst.trans (hb7.mono hst.size)
  replace hsK := hsK.step hb7
  clear hb7
  go_wp2_with (first
    | (with_reducible refine wl_min200 rfl _ rfl l.length rfl ?_; go_frame)
    | (with_reducible refine wl_hi rfl _ _ rfl a l.length c (min l.length 200) rfl rfl (by omega) _ HV.out ?_; go_frame))
  clear HV hc hm
  go_loopw [7] (fun i wr => ∃ k : Nat, k ≤ K.length ∧ i = .int .i64 k ∧ (∃ F, Row wr w.heap.size r (rowOf (K.take k)) F) ∧ Below w.heap.size w wr) (fun i _ => K.length - (intOf i).toNat)
  case atStart => exact ⟨0, by omega, rfl, ⟨F7, hr⟩, hst⟩
  case round =>
    obtain ⟨k, hk, rfl, ⟨F, hr⟩, hst'⟩ := hrel
    by_cases hlt : k < K.length
    · obtain ⟨b, o, rfl, hat⟩ := IsI.at hsK0 (by omega)
      have hck := Below.at hst' (hat k hlt)
      have hwk := hwK _ (List.getElem_mem hlt)
      have hlen := rowOf_len K k hk
      have hsu := Lib.hid (rowOf_succ K k hlt)
      generalize K[k] = x at *
      clear hat hst hsK
      go_wp2_with fail
      refine (touch_any _ _ r _ _ x hr hwk (by omega)).mono ?_
      rintro e W8 ⟨rfl, ⟨F8, hr8, _⟩, hu8⟩
      have hst8 := hu8.below hst' hst'.size (fun q hF => (hr.low q hF).1)
      have hr8' : Row W8 w.heap.size r (rowOf (K.take (k + 1))) F8 := by rw [hsu.out]; exact hr8
      clear hr hst' hu8 hr8 hck
      go_wp2_with fail
      go_roundw
      case rel => exact ⟨k + 1, by omega, by go_num, ⟨F8, hr8'⟩, hst8⟩
      case measure => simp [intOf]; omega
    · obtain rfl : k = K.length := by omega
      rw [List.take_length] at hr
      have hord := rowOf_order K K.length (Nat.le_refl _)
      have hnd := rowOf_nodup K K.length (Nat.le_refl _)
      have hlen := rowOf_len K K.length (Nat.le_refl _)
      have hmem := fun x => mem_rowOf K x K.length (Nat.le_refl _)
      rw [List.take_length] at hord hnd hlen hmem
      clear hst hsK hk hlt
      generalize rowOf K = bs at *
      obtain ⟨ho1, ho2⟩ := hord
      have HLT := Lib.hid (fun i hi => last_lt ho1 ho2 i hi)
      have HMM := Lib.hid hmem
      clear ho1 ho2 hmem
      go_wp2_with fail
      refine (all_any _ _ r _ _ hr (by omega)).mono ?_
      rintro e W8 ⟨v8, rfl, hown, hb8⟩
      replace hr := hr.step hb8
      have hst8 := hst'.trans (hb8.mono hst'.size)
      have hsK8 := hsK0.step hst8
      have hal := hown.isI
      clear hown hb8 hst' hsK0
      obtain ⟨ab, cb, rfl, hmb, hcb⟩ := hal.form
      unfold maxLen at hmb
      go_upto_block 2 with fail
      obtain ⟨wo, rfl⟩ : ∃ wo : World, wo = W8 := ⟨_, rfl⟩
      go_cut [9, 10, 11, 12] from 40 to 74 (fun s9 s10 s11 s12 wx => Below wo.heap.size wo wx)
      case first =>
        go_wp2_with fail
        go_loopw [9, 10] (fun la' i wr => ∃ j : Nat, j ≤ bs.length ∧ i = .int .i64 j ∧ la' = .int .i64 (lastOf K bs j) ∧ Below wo.heap.size wo wr) (fun _ i _ => bs.length - (intOf i).toNat)
        case atStart => exact ⟨0, by omega, rfl, rfl, Below.refl _ _⟩
        case round =>
          obtain ⟨j, hj, rfl, rfl, hbj⟩ := hrel
          by_cases hlt : j < bs.length
          · obtain ⟨b1, o1, rfl, hat1⟩ := IsI.at hal (by omega)
            have hcj := hat1 j hlt
            have hl1 := HLT.out j hlt
            have hl2 : lastOf K bs (j + 1) = la K (bs.getD j 0) K.length := rfl
            rw [getD_of hlt] at hl2
            have hct : bs.contains bs[j] = true := by simp
            have hwy := hr.wf _ (List.getElem_mem hlt)
            generalize bs[j] = y at *
            have H2 := Lib.hid hl2
            have HC := Lib.hid hct
            generalize lastOf K bs j = m0 at *
            have hH1 := Lib.hid hl1
            clear hat1 hl2 hct hl1
            go_wp2_with fail
            obtain ⟨wp, rfl⟩ : ∃ wp : World, wp = wr := ⟨_, rfl⟩
            go_loopw [11, 12] (fun at' k wr => ∃ k' : Nat, k' ≤ K.length ∧ k = .int .i64 k' ∧ at' = .int .i64 (la K y k') ∧ Below wo.heap.size wo wr) (fun _ k _ => K.length - (intOf k).toNat)
            case atStart => exact ⟨0, by omega, rfl, rfl, hbj⟩
            case round =>
              clear hbj
              obtain ⟨k, hk, rfl, rfl, hbk⟩ := hrel
              by_cases hltk : k < K.length
              · obtain ⟨b2, o2, rfl, hat2⟩ := IsI.at hsK8 (by omega)
                have hck := hat2 k hltk
                have hls := la_succ K y k
                rw [getD_of hltk] at hls
                have hc1 := Below.at hbk.drew hck
                have hc2 := Below.at hbk.drew hcj
                have hbD := hbk.drew
                generalize K[k] = x at *
                have HS := Lib.hid hls
                generalize la K y k = m at *
                clear hat2 hck hls
                go_wp2_with fail
                refine Reg.region_ord (S := fun w' => w' = wr.drew) [(0, 1), (1, 1), (2, 1), (3, 1), (4, 1), (5, 1), (6, 1), (7, 1), (8, 1)] (by kernel_rfl) (by kernel_rfl) (by decide) (by kernel_rfl) (fun _ _ _ _ _ h => h) ?_
                generalize wr.drew = W at *
                refine Reg.ord_move rfl _ rfl rfl rfl ?_; simp only [Act.put, Act.eval, List.setIfInBounds_toArray, List.set_cons_succ, List.set_cons_zero, Array.getD_eq_getD_getElem?, List.getElem?_toArray, List.getElem?_cons_succ, List.getElem?_cons_zero, Option.getD_some]
                refine Reg.ord_move rfl _ rfl rfl rfl ?_; simp only [Act.put, Act.eval, List.setIfInBounds_toArray, List.set_cons_succ, List.set_cons_zero, Array.getD_eq_getD_getElem?, List.getElem?_toArray, List.getElem?_cons_succ, List.getElem?_cons_zero, Option.getD_some]
                refine Reg.ord_val rfl rfl rfl (.pointer (some ⟨b2, o2 + k, none⟩)) (fun w' _ => by go_simp) ?_; simp only [Act.put, Act.eval, List.setIfInBounds_toArray, List.set_cons_succ, List.set_cons_zero, Array.getD_eq_getD_getElem?, List.getElem?_toArray, List.getElem?_cons_succ, List.getElem?_cons_zero, Option.getD_some]
                refine Reg.ord_val rfl rfl rfl (.int .i64 x) (fun w' h => by subst h; exact run_ld agg3 _ rfl (by simp [Act.eval]) hc1) ?_; simp only [Act.put, Act.eval, List.setIfInBounds_toArray, List.set_cons_succ, List.set_cons_zero, Array.getD_eq_getD_getElem?, List.getElem?_toArray, List.getElem?_cons_succ, List.getElem?_cons_zero, Option.getD_some]
                refine Reg.ord_move rfl _ rfl rfl rfl ?_; simp only [Act.put, Act.eval, List.setIfInBounds_toArray, List.set_cons_succ, List.set_cons_zero, Array.getD_eq_getD_getElem?, List.getElem?_toArray, List.getElem?_cons_succ, List.getElem?_cons_zero, Option.getD_some]
                refine Reg.ord_move rfl _ rfl rfl rfl ?_; simp only [Act.put, Act.eval, List.setIfInBounds_toArray, List.set_cons_succ, List.set_cons_zero, Array.getD_eq_getD_getElem?, List.getElem?_toArray, List.getElem?_cons_succ, List.getElem?_cons_zero, Option.getD_some]
                refine Reg.ord_val rfl rfl rfl (.pointer (some ⟨b1, o1 + j, none⟩)) (fun w' _ => by go_simp) ?_; simp only [Act.put, Act.eval, List.setIfInBounds_toArray, List.set_cons_succ, List.set_cons_zero, Array.getD_eq_getD_getElem?, List.getElem?_toArray, List.getElem?_cons_succ, List.getElem?_cons_zero, Option.getD_some]
                refine Reg.ord_val rfl rfl rfl (.int .i64 y) (fun w' h => by subst h; exact run_ld agg3 _ rfl (by simp [Act.eval]) hc2) ?_; simp only [Act.put, Act.eval, List.setIfInBounds_toArray, List.set_cons_succ, List.set_cons_zero, Array.getD_eq_getD_getElem?, List.getElem?_toArray, List.getElem?_cons_succ, List.getElem?_cons_zero, Option.getD_some]
                refine Reg.ord_val rfl rfl rfl (.bool (x == y)) (fun w' _ => by go_simp) ?_; simp only [Act.put, Act.eval, List.setIfInBounds_toArray, List.set_cons_succ, List.set_cons_zero, Array.getD_eq_getD_getElem?, List.getElem?_toArray, List.getElem?_cons_succ, List.getElem?_cons_zero, Option.getD_some]
                refine Reg.ord_nil ?_
                clear hc1 hc2
                by_cases hxy : x = y
                · rw [show (x == y) = true by simpa using hxy]
                  have hm' := HS.out
                  rw [if_pos hxy] at hm'
                  have HM := Lib.hid hm'
                  clear hm' hxy
                  go_wp2_with fail
                  go_roundw
                  case rel => exact ⟨k + 1, by omega, by go_num, by rw [HM.out], hbD⟩
                  case measure => simp [intOf]; omega
                · rw [show (x == y) = false by simpa using hxy]
                  have hm' := HS.out
                  rw [if_neg hxy] at hm'
                  have HM := Lib.hid hm'
                  clear hm' hxy
                  go_wp2_with fail
                  go_roundw
                  case rel => exact ⟨k + 1, by omega, by go_num, by rw [HM.out], hbD⟩
                  case measure => simp [intOf]; omega
              · obtain rfl : k = K.length := by omega
                have hrk := hr.step hbk
                have hcjk := Below.at hbk hcj
                have hl1 := hH1.out
                generalize la K y K.length = m1 at *
                go_wp2_with fail
                refine (has_any _ _ r _ _ y hrk hwy).mono ?_
                rintro e W9 ⟨rfl, rfl⟩
                rw [HC.out]
                clear hcjk hrk
                go_wp2_with fail
                go_roundw
                case rel => exact ⟨j + 1, by omega, by go_num, by rw [H2.out], hbk⟩
                case measure => simp [intOf]; omega
          · obtain rfl : j = bs.length := by omega
            go_wp2_with fail
            go_meet
            exact hbj
      case rest =>
        go_upto_block 6 with fail
        go_cut [13, 14, 15] from 75 to 99 (fun s13 s14 s15 wx => Below wo.heap.size wo wx)
        case first =>
          go_wp2_with fail
          go_loopw [13] (fun i wr => ∃ k : Nat, k ≤ K.length ∧ i = .int .i64 k ∧ Below wo.heap.size wo wr) (fun i _ => K.length - (intOf i).toNat)
          case atStart => exact ⟨0, by omega, rfl, hcut⟩
          case round =>
            clear hcut
            obtain ⟨k, hk, rfl, hbk⟩ := hrel
            by_cases hlt : k < K.length
            · obtain ⟨b2, o2, rfl, hat2⟩ := IsI.at hsK8 (by omega)
              have hck := hat2 k hlt
              have hone := Lib.hid (cnt_one hnd ((HMM.out K[k]).2 (List.getElem_mem hlt)))
              generalize K[k] = y at *
              clear hat2
              go_wp2_with fail
              obtain ⟨wq, rfl⟩ : ∃ wq : World, wq = wr := ⟨_, rfl⟩
              go_loopw [14, 15] (fun c i wr => ∃ i' : Nat, i' ≤ bs.length ∧ i = .int .i64 i' ∧ c = .int .i64 (cnt bs y i') ∧ Below wo.heap.size wo wr) (fun _ i _ => bs.length - (intOf i).toNat)
              case atStart => exact ⟨0, by omega, rfl, rfl, hbk⟩
              case round =>
                clear hbk
                obtain ⟨j, hj, rfl, rfl, hbj⟩ := hrel
                by_cases hltj : j < bs.length
                · obtain ⟨b1, o1, rfl, hat1⟩ := IsI.at hal (by omega)
                  have hcj := hat1 j hltj
                  have hls := cnt_succ bs y j
                  rw [getD_of hltj] at hls
                  have hcl := cnt_le bs y j
                  have hc1 := Below.at hbj.drew hcj
                  have hc2 := Below.at hbj.drew hck
                  have hbD := hbj.drew
                  generalize bs[j] = x at *
                  have HS := Lib.hid hls
                  generalize cnt bs y j = m at *
                  clear hat1 hcj hls
                  go_wp2_with fail
                  refine Reg.region_ord (S := fun w' => w' = wr.drew) [(0, 1), (1, 1), (2, 1), (3, 1), (4, 1), (5, 1), (6, 1), (7, 1), (8, 1)] (by kernel_rfl) (by kernel_rfl) (by decide) (by kernel_rfl) (fun _ _ _ _ _ h => h) ?_
                  generalize wr.drew = W at *
                  refine Reg.ord_move rfl _ rfl rfl rfl ?_; simp only [Act.put, Act.eval, List.setIfInBounds_toArray, List.set_cons_succ, List.set_cons_zero, Array.getD_eq_getD_getElem?, List.getElem?_toArray, List.getElem?_cons_succ, List.getElem?_cons_zero, Option.getD_some]
                  refine Reg.ord_move rfl _ rfl rfl rfl ?_; simp only [Act.put, Act.eval, List.setIfInBounds_toArray, List.set_cons_succ, List.set_cons_zero, Array.getD_eq_getD_getElem?, List.getElem?_toArray, List.getElem?_cons_succ, List.getElem?_cons_zero, Option.getD_some]
                  refine Reg.ord_val rfl rfl rfl (.pointer (some ⟨b1, o1 + j, none⟩)) (fun w' _ => by go_simp) ?_; simp only [Act.put, Act.eval, List.setIfInBounds_toArray, List.set_cons_succ, List.set_cons_zero, Array.getD_eq_getD_getElem?, List.getElem?_toArray, List.getElem?_cons_succ, List.getElem?_cons_zero, Option.getD_some]
                  refine Reg.ord_val rfl rfl rfl (.int .i64 x) (fun w' h => by subst h; exact run_ld agg3 _ rfl (by simp [Act.eval]) hc1) ?_; simp only [Act.put, Act.eval, List.setIfInBounds_toArray, List.set_cons_succ, List.set_cons_zero, Array.getD_eq_getD_getElem?, List.getElem?_toArray, List.getElem?_cons_succ, List.getElem?_cons_zero, Option.getD_some]
                  refine Reg.ord_move rfl _ rfl rfl rfl ?_; simp only [Act.put, Act.eval, List.setIfInBounds_toArray, List.set_cons_succ, List.set_cons_zero, Array.getD_eq_getD_getElem?, List.getElem?_toArray, List.getElem?_cons_succ, List.getElem?_cons_zero, Option.getD_some]
                  refine Reg.ord_move rfl _ rfl rfl rfl ?_; simp only [Act.put, Act.eval, List.setIfInBounds_toArray, List.set_cons_succ, List.set_cons_zero, Array.getD_eq_getD_getElem?, List.getElem?_toArray, List.getElem?_cons_succ, List.getElem?_cons_zero, Option.getD_some]
                  refine Reg.ord_val rfl rfl rfl (.pointer (some ⟨b2, o2 + k, none⟩)) (fun w' _ => by go_simp) ?_; simp only [Act.put, Act.eval, List.setIfInBounds_toArray, List.set_cons_succ, List.set_cons_zero, Array.getD_eq_getD_getElem?, List.getElem?_toArray, List.getElem?_cons_succ, List.getElem?_cons_zero, Option.getD_some]
                  refine Reg.ord_val rfl rfl rfl (.int .i64 y) (fun w' h => by subst h; exact run_ld agg3 _ rfl (by simp [Act.eval]) hc2) ?_; simp only [Act.put, Act.eval, List.setIfInBounds_toArray, List.set_cons_succ, List.set_cons_zero, Array.getD_eq_getD_getElem?, List.getElem?_toArray, List.getElem?_cons_succ, List.getElem?_cons_zero, Option.getD_some]
                  refine Reg.ord_val rfl rfl rfl (.bool (x == y)) (fun w' _ => by go_simp) ?_; simp only [Act.put, Act.eval, List.setIfInBounds_toArray, List.set_cons_succ, List.set_cons_zero, Array.getD_eq_getD_getElem?, List.getElem?_toArray, List.getElem?_cons_succ, List.getElem?_cons_zero, Option.getD_some]
                  refine Reg.ord_nil ?_
                  clear hc1 hc2
                  by_cases hxy : x = y
                  · rw [show (x == y) = true by simpa using hxy]
                    have hm' := HS.out
                    rw [if_pos hxy] at hm'
                    have HM := Lib.hid hm'
                    clear hm' hxy
                    go_wp2_with fail
                    go_roundw
                    case rel => exact ⟨j + 1, by omega, by go_num, by rw [HM.out]; go_num, hbD⟩
                    case measure => simp [intOf]; omega
                  · rw [show (x == y) = false by simpa using hxy]
                    have hm' := HS.out
                    rw [if_neg hxy] at hm'
                    have HM := Lib.hid hm'
                    clear hm' hxy
                    go_wp2_with fail
                    go_roundw
                    case rel => exact ⟨j + 1, by omega, by go_num, by rw [HM.out], hbD⟩
                    case measure => simp [intOf]; omega
                · obtain rfl : j = bs.length := by omega
                  rw [hone.out]
                  go_wp2_with fail
                  go_roundw
                  case rel => exact ⟨k + 1, by omega, by go_num, hbj⟩
                  case measure => simp [intOf]; omega
            · obtain rfl : k = K.length := by omega
              go_wp2_with fail
              go_meet
              exact hbk
        case rest =>
          have hbk := hcut
          have hrk := hr.step hbk
          have hstk := hst8.trans (hbk.mono hst8.size)
          have halk := hal.step hbk
          clear hr hst8 hal hsK8 hcut hbk
          have hz2 := clamp n bs.length
          obtain ⟨z, hz⟩ : ∃ z : Int, min n bs.length = z := ⟨_, rfl⟩
          rw [hz] at hz2
          have htt := take_clamp bs n.toNat
          have hfl : (bs.take n.toNat).length = min n.toNat bs.length := List.length_take
          have hqc : min n.toNat bs.length ≤ bs.length := Nat.min_le_right _ _
          have HZ := Lib.hid hz
          clear hz
          go_wp2_with fail
          refine (oldest_any _ _ r _ _ n hrk (by omega)).mono ?_
          rintro e W9 ⟨v9, rfl, hfew, hb9⟩
          have hfi := hfew.isI
          obtain ⟨af, cf, rfl, hmf, hcf⟩ := hfi.form
          replace hrk := hrk.step hb9
          replace hstk := hstk.trans (hb9.mono hstk.size)
          replace halk := halk.step hb9
          have hcut := halk.hi (min n.toNat bs.length) (by omega)
          rw [hfl] at hfi ⊢
          rw [htt] at hfi
          clear hfew hb9 hfl htt hmf hcf halk
          obtain ⟨vc, hvc⟩ : ∃ vc, vc = sliced ab 0 (min n.toNat bs.length) cb 1 := ⟨_, rfl⟩
          rw [← hvc] at hcut
          generalize min n.toNat bs.length = q at *
          have HVC := Lib.hid hvc.symm
          have HZ2 := Lib.hid hz2
          clear hvc hz2
          go_wp2_with fail
          refine (len_any _ _ r _ _ hrk).mono ?_
          rintro e W10 ⟨rfl, rfl⟩
          clear hrk
          go_wp2_with (first
            | (with_reducible refine wl_min rfl _ _ rfl n bs.length z rfl rfl HZ.out ?_; go_frame)
            | (with_reducible refine wl_max rfl _ _ rfl 0 z q rfl rfl HZ2.out ?_; go_frame)
            | (with_reducible refine wl_hi rfl _ _ rfl ab bs.length cb q rfl rfl (by omega) _ HVC.out ?_; go_frame))
          refine (numbers_any _ _ _ _ _ hfi hcut).mono ?_
          rintro e W11 ⟨rfl, hb11⟩
          rw [decide_eq_true rfl]
          replace hstk := hstk.trans (hb11.mono hstk.size)
          clear hb11 hfi hcut
          go_wp2_with fail
          exact ret_tmp rfl _ rfl rfl ⟨rfl, hstk⟩
/-! ### The row's step -/
set_option maxRecDepth 100000 in
theorem lifted (os : Os) (started : os.Started) (H : Type) (enc : TypeId × Value → H) :
    ReturnsInHanded {} Try.checked os 3 .any (Rows.recencyOrderSpec.pre6 enc Try.prog Try.f3 Rows.recencyOrderRow.domain false) (Rows.recencyOrderSpec.post enc Try.prog Try.f3 false true false false) := by
  refine returnsInHanded_of_change (C := Try.checked) own started (by kernel_rfl) Try.func3
    (ChangeSpec.witness6 (enc := enc) (C := Try.checked) false ⟨#[], #[.slice none 0 0, .int .i64 0], []⟩ 8 (by kernel_rfl) (by kernel_rfl) (by kernel_rfl) (by kernel_rfl)) ?_
  intro W base args ds gs before hval0 hW hcnd _
  have hval : ∀ (j : Nat) t v, Try.f3.params[j]? = some t → args[j]? = some v → Value.okWide Try.prog W .any base t v := hval0
  have hW' := hW
  obtain ⟨p, q, hA0, hV, rfl, hfz, hnd⟩ := hW
  have hA : DataW.TrodAll enc Try.prog W 0 (fun _ => true) true Try.f3.params.toList args.toList ds p := hA0
  rw [Try.params3] at hA hval
  obtain ⟨v0, vs0, d0, ds0, p0, q0, hargs, rfl, rfl, h0, r0⟩ := trodAll_cons hA
  obtain ⟨v1, vs1, d1, ds1, p1, q1, rfl, rfl, rfl, h1, r1⟩ := trodAll_cons r0
  obtain ⟨rfl, rfl, rfl⟩ := trodAll_nil r1
  obtain rfl : args = #[v0, v1] := by cases args; simp_all
  obtain ⟨rfl, rfl⟩ := trodVars_none hV
  have k0 := h0
  have lt0 : ∀ x ∈ p0, x.block < W.heap.size := by obtain ⟨m, hm⟩ := k0; exact DataW.trod_lt m _ _ _ hm
  obtain ⟨x0, hs0⟩ := open_is (hval 0 22 v0 rfl rfl) k0
  have k1 := h1
  clear h1
  obtain ⟨x1, rfl, rfl, rfl, w1⟩ := open_int Try.underlying3 (hval 1 3 v1 rfl rfl) k1
  clear hA0 hval0
  refine (walk v0 x0 x1 W hs0).mono fun e W' ⟨he, bel⟩ => ?_
  subst he
  exact ⟨_, rfl, _, _, _, [], _, [], hW', trodAll_mk1 (shut_bool Try.underlying4 _), (trodAll_cons_mk (Below.trod laidOut (by kernel_rfl) (of_decide_eq_true (by kernel_rfl)) k0 bel lt0) (trodAll_cons_mk (shut_int Try.underlying3 w1) trodAll_mk0)), rfl, bel.frame _, fun h => by cases h⟩

theorem over : Rows.recencyOrderRow.holds Try.pinned (OpenSpec.ofChange Rows.recencyOrderSpec) :=
  OpenClaim.holds_of_wide 3 Try.f3 rfl rfl rfl rfl rfl rfl rfl ⟨rfl, rfl, rfl, rfl, rfl⟩ rfl rfl rfl rfl rfl (by kernel_rfl) Try.func3 (by kernel_rfl)
    (of_decide_eq_true (by kernel_rfl)) (by unfold Func.isWrapper; first | (rw [if_pos (by decide +kernel)]; kernel_rfl) | (rw [if_neg (by decide +kernel)]; exact ⟨rfl, rfl⟩))
    (fun os started H enc _ => lifted os started H enc)

/-- The statement. -/
theorem proved : Rows.RecencyOrderSaid := over
#print axioms proved
end Go.Proofs.Ytbbdbcgmeffchaa.order
