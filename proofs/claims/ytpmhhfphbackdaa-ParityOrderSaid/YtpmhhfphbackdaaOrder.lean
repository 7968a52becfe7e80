/- ParityOrder: the order does not matter, and zeros do not. The statement holds as it stands: no condition. -/
import Derived.Test.YtpmhhfphbackdaaOwn2
namespace Go.Proofs.Ytpmhhfphbackdaa.order
open Go.RowKit Go.ChangeShapes Go.WideShapes Go.ChangeAt
set_option linter.unusedSimpArgs false

set_option maxRecDepth 100000 in
set_option maxHeartbeats 1000000 in
theorem walk (v : Value) (ss : List Sec) (u : Value) (tt : List Sec) (w : World) (hs : IsSecs w v ss) (ht : IsSecs w u tt) :
    Calls Try.prog 5 #[v, u] w fun e w' => e = .returned (.bool true) ∧ Below w.heap.size w w' := by
  have hst := St.start w
  obtain ⟨a, n, c, rfl⟩ := hs.form
  obtain ⟨a', n', c', rfl⟩ := ht.form
  obtain ⟨hn, hnc, hnm⟩ := hs.len
  obtain ⟨hn', hnc', hnm'⟩ := ht.len
  unfold maxLen at hnm hnm'
  have hs' := hs.cut (min n 40) rfl
  have ht' := ht.cut (min n' 40) rfl
  obtain ⟨aL, mL, cL, hvL⟩ := hs'.form
  obtain ⟨aK, mK, cK, hvK⟩ := ht'.form
  rw [hvL] at hs'
  rw [hvK] at ht'
  have HL := Lib.hid hvL
  have HK := Lib.hid hvK
  generalize hL : ss.take 40 = L at *
  generalize hK : tt.take 40 = K at *
  have hL40 : L.length ≤ 40 := by rw [← hL, List.length_take]; omega
  have hK40 : K.length ≤ 40 := by rw [← hK, List.length_take]; omega
  obtain ⟨hmL, hmcL, _⟩ := hs'.len
  subst hmL
  clear hvL hvK hs ht hn hn' hL hK
  go_enter Try.func5, Try.ntmps5
  go_wp2_with fail
  refine (shown_any _).mono ?_
  rintro e W6 ⟨rfl, hbl6⟩
  have hst6 := hst.step hbl6
  clear hst hbl6
  go_wp2_with (first
    | (with_reducible refine wl_min40 rfl _ rfl n rfl ?_; go_frame)
    | (with_reducible refine wl_min40 rfl _ rfl n' rfl ?_; go_frame)
    | (with_reducible refine wl_cut' rfl _ _ rfl a n c (min n 40) rfl rfl (by omega) _ HL.out ?_; go_frame)
    | (with_reducible refine wl_cut' rfl _ _ rfl a' n' c' (min n' 40) rfl rfl (by omega) _ HK.out ?_; go_frame))
  refine (build_any _ L _ (hs'.since hst6)).mono ?_
  rintro e W7 ⟨rfl, hbl7⟩
  have hst7 := hst6.step hbl7
  clear hst6 hbl7
  go_wp2_with (first
    | (refine wl_new rfl rfl 6 rfl rfl _ rfl hst7 (par L) (by simp [Act.put]) (fun v => by simp [Act.eval, Act.put]) ?_; intro b8 W8 hb8 hc8 hbl8 hst8; clear hst7; go_frame))
  have hw8 := hst8.below.size
  clear hbl8 hb8
  have hLn : (L.length : Int) ≤ 40 := by omega
  have hown8 := Owned.nil W8 W8.heap.size
  go_loopw [7, 8] (fun v7 i wr => ∃ j : Nat, j ≤ L.length ∧ i = .int .i64 ((L.length : Int) - 1 - j) ∧ St w wr [(b8, par L)] ∧ W8.heap.size ≤ wr.heap.size ∧ Owned wr W8.heap.size v7 (backOf L j)) (fun _ i _ => (intOf i + 1).toNat)
  case atStart => exact ⟨0, by omega, by simp, hst8, Nat.le_refl _, by rw [back_zero]; exact hown8⟩
  case round =>
    obtain ⟨j, hj, rfl, hst, hsz, hown⟩ := hrel
    clear hst8 hown8
    by_cases hlt : j < L.length
    · obtain ⟨bL, oL, rfl, hsec⟩ := hs'.at (by omega)
      have hsecw := hsec.step hst.below
      clear hsec
      have hge : (0 : Int) ≤ (L.length : Int) - 1 - j := by omega
      obtain ⟨q, hq⟩ : ∃ q : Nat, (L.length : Int) - 1 - j = (q : Int) := ⟨L.length - 1 - j, by omega⟩
      have hqn : q = L.length - 1 - j := by omega
      have hqlt : q < L.length := by omega
      have HQ := Lib.hid hqn
      have HQ2 := Lib.hid hq
      rw [hq]
      clear hqn hge hq
      go_wp2_with (first
        | (with_reducible refine wl_load_at rfl _ rfl hsecw q hqlt rfl ?_; go_frame)
        | (with_reducible refine wl_zero rfl rfl ?_; go_frame; refine stop ?_))
      unfold Stop
      refine wl_slice2 rfl _ _ rfl L[q] zeroS ?_ ?_ hst ?_
      · simp [Act.eval]
      · simp [Act.eval]
      intro b9 W9 hb9 hc9 hbl9 hst9 hs9
      go_frame
      have hown9 := hown.step hbl9
      have hgb := hown9.block
      clear hst hown hsecw
      refine wl_append rfl _ _ rfl W8.heap.size _ (backOf L j) ?_ hown9 _ [L[q], zeroS] ?_ hs9 (by rw [back_len L j hj]; simp; omega) (by omega) ?_
      · simp [Act.eval]
      · simp [Act.eval]
      intro v10 W10 hown10 hgr
      have hst10 : St w W10 [(b8, par L)] := hst9.grown hgr (fun k hk => by
        have h1 := (hgb k hk).1
        have h2 := hst9.below.size
        exact ⟨by omega, by simp; omega⟩)
      have hsz10 : W8.heap.size ≤ W10.heap.size := by have := hgr.size; omega
      rw [show [L[q], zeroS] = [L[L.length - 1 - j], zeroS] by congr 2, ← back_succ L j hlt] at hown10
      clear hst9 hown9 hgr hgb hs9 hbl9
      go_wp2
      go_roundw
      case rel => exact ⟨j + 1, by omega, congrArg (Value.int .i64) (by have := HQ2.out; omega), hst10, hsz10, hown10⟩
      case measure => have := HQ2.out; simp [intOf] <;> omega
    · obtain rfl : j = L.length := by omega
      have hback := hown.isSecs
      clear hown
      have hsL := hs'.since hst
      have hsK := ht'.since hst
      clear hs' ht'
      go_wp2_with (first
        | (refine wl_slice0 rfl rfl hst ?_; intro g1 W11 hg1 hcg1 hB hst11 hrow1; clear hst11; go_frame; refine stop ?_))
      unfold Stop
      go_wp2_with (first | (at_builtin; refine stop ?_))
      unfold Stop
      refine wl_append rfl _ _ rfl g1 _ [] ?_ (hrow1.owned (Nat.le_refl _)) _ L ?_ (hsL.step hB) (by simp; omega) (by omega) ?_
      · simp [Act.eval]
      · simp [Act.eval]
      intro v12 W12 hown12 hgr12
      rw [List.nil_append] at hown12
      replace hB := hB.trans (Below.of_grown (B := wr.heap.size) hgr12 (by omega) (fun k hk => by simp [Value.ownBlock] at hk; omega))
      have hsz12 := hgr12.size
      clear hgr12 hrow1
      go_frame
      go_wp2_with (first | (at_builtin; refine stop ?_))
      unfold Stop
      refine wl_append rfl _ _ rfl g1 _ L ?_ hown12 _ L ?_ (hsL.step hB) (by omega) (by omega) ?_
      · simp [Act.eval]
      · simp [Act.eval]
      intro v13 W13 hown13 hgr13
      replace hB := hB.trans (Below.of_grown (B := wr.heap.size) hgr13 (by omega) (fun k hk => by have := (hown12.block k hk).1; omega))
      have hsz13 := hgr13.size
      clear hgr13 hown12
      go_frame
      have hst13 := hst.step hB
      go_wp2_with (first
        | (refine wl_slice0 rfl rfl hst13 ?_; intro g2 W14 hg2 hcg2 hB2 hst14 hrow2; clear hst14; go_frame; refine stop ?_))
      unfold Stop
      go_wp2_with (first | (at_builtin; refine stop ?_))
      unfold Stop
      refine wl_append rfl _ _ rfl g2 _ [] ?_ (hrow2.owned (Nat.le_refl _)) _ L ?_ ((hsL.step hB).step hB2) (by simp; omega) (by omega) ?_
      · simp [Act.eval]
      · simp [Act.eval]
      intro v15 W15 hown15 hgr15
      rw [List.nil_append] at hown15
      replace hB2 := hB2.trans (Below.of_grown (B := W13.heap.size) hgr15 (by omega) (fun k hk => by simp [Value.ownBlock] at hk; omega))
      have hsz15 := hgr15.size
      clear hgr15 hrow2
      go_frame
      go_wp2_with (first | (at_builtin; refine stop ?_))
      unfold Stop
      refine wl_append rfl _ _ rfl g2 _ L ?_ hown15 _ K ?_ ((hsK.step hB).step hB2) (by omega) (by omega) ?_
      · simp [Act.eval]
      · simp [Act.eval]
      intro v16 W16 hown16 hgr16
      replace hB2 := hB2.trans (Below.of_grown (B := W13.heap.size) hgr16 (by omega) (fun k hk => by have := (hown15.block k hk).1; omega))
      clear hgr16 hown15
      go_frame
      have hst16 := (hst13.step hB2).step Below.draws
      have hback16 := ((hback.step hB).step hB2).step Below.draws
      have hsK16 := ((hsK.step hB).step hB2).step Below.draws
      have htwice := (hown13.isSecs.step hB2).step Below.draws
      have hboth := hown16.isSecs.step Below.draws
      clear hst13 hst hback hsK hsL hown13 hown16 hB hB2 hsz12 hsz13 hsz15 hg1 hcg1 hg2 hcg2
      go_wp2_with fail
      refine Reg.region_ord (S := fun w' => Below W16.drew.heap.size W16.drew w') [(0, 1), (1, 1), (2, 1), (4, 1), (3, 0), (5, 1), (6, 1), (7, 1), (8, 1), (10, 1), (9, 0), (11, 1), (12, 1), (13, 1), (14, 1), (16, 1), (17, 1), (15, 0), (18, 0), (19, 0), (20, 1), (21, 1), (22, 1)] (by kernel_rfl) (by kernel_rfl) (by decide) (by kernel_rfl) (fun _ _ _ _ _ h => h) ?_
      generalize W16.drew = W17 at *
      have hB := Below.refl W17.heap.size W17
      refine Reg.ord_move rfl _ rfl (by simp [Region.wanted, yielded]) hB ?_
      simp only [Act.put, Act.eval, List.setIfInBounds_toArray, List.set_cons_succ, List.set_cons_zero, Array.getD_eq_getD_getElem?, List.getElem?_toArray, List.getElem?_cons_succ, List.getElem?_cons_zero, Option.getD_some]
      refine Reg.ord_move rfl _ rfl (by simp [Region.wanted, yielded]) hB ?_
      simp only [Act.put, Act.eval, List.setIfInBounds_toArray, List.set_cons_succ, List.set_cons_zero, Array.getD_eq_getD_getElem?, List.getElem?_toArray, List.getElem?_cons_succ, List.getElem?_cons_zero, Option.getD_some]
      refine Reg.ord_move rfl _ rfl (by simp [Region.wanted, yielded]) hB ?_
      simp only [Act.put, Act.eval, List.setIfInBounds_toArray, List.set_cons_succ, List.set_cons_zero, Array.getD_eq_getD_getElem?, List.getElem?_toArray, List.getElem?_cons_succ, List.getElem?_cons_zero, Option.getD_some]
      refine Reg.ord_val rfl (by simp [Region.wanted, yielded]) hB _ (fun w' hS => (hst16.step hS).load mem0 _ rfl (by simp [Act.eval])) ?_
      simp only [Act.put, Act.eval, List.setIfInBounds_toArray, List.set_cons_succ, List.set_cons_zero, Array.getD_eq_getD_getElem?, List.getElem?_toArray, List.getElem?_cons_succ, List.getElem?_cons_zero, Option.getD_some]
      refine Reg.ord_call rfl (by simp [Region.wanted, yielded]) 11 _ (by go_simp) (build_any u7 (backOf L L.length) _ (hback16.step hB)) (fun W1 hb1 => ⟨hB.trans (hb1.mono hB.size), ?_⟩)
      simp only [Act.put, Act.eval, List.setIfInBounds_toArray, List.set_cons_succ, List.set_cons_zero, Array.getD_eq_getD_getElem?, List.getElem?_toArray, List.getElem?_cons_succ, List.getElem?_cons_zero, Option.getD_some]
      replace hB := hB.trans (hb1.mono hB.size)
      clear hb1
      refine ord_eqlT rfl (by simp [Region.wanted, yielded]) hB _ _ rfl _ _ (by simp [Act.eval] <;> rfl) (by simp [Act.eval] <;> rfl) (secEq_same (par_back L)) ?_
      simp only [Act.put, Act.eval, List.setIfInBounds_toArray, List.set_cons_succ, List.set_cons_zero, Array.getD_eq_getD_getElem?, List.getElem?_toArray, List.getElem?_cons_succ, List.getElem?_cons_zero, Option.getD_some]
      refine Reg.ord_pick rfl _ _ _ rfl (by simp [Region.wanted, yielded]) hB true rfl ?_
      simp only [if_true]
      simp only [Act.put, Act.eval, List.setIfInBounds_toArray, List.set_cons_succ, List.set_cons_zero, Array.getD_eq_getD_getElem?, List.getElem?_toArray, List.getElem?_cons_succ, List.getElem?_cons_zero, Option.getD_some]
      refine Reg.ord_move rfl _ rfl (by simp [Region.wanted, yielded]) hB ?_
      simp only [Act.put, Act.eval, List.setIfInBounds_toArray, List.set_cons_succ, List.set_cons_zero, Array.getD_eq_getD_getElem?, List.getElem?_toArray, List.getElem?_cons_succ, List.getElem?_cons_zero, Option.getD_some]
      refine Reg.ord_move rfl _ rfl (by simp [Region.wanted, yielded]) hB ?_
      simp only [Act.put, Act.eval, List.setIfInBounds_toArray, List.set_cons_succ, List.set_cons_zero, Array.getD_eq_getD_getElem?, List.getElem?_toArray, List.getElem?_cons_succ, List.getElem?_cons_zero, Option.getD_some]
      refine Reg.ord_val rfl (by simp [Region.wanted, yielded]) hB (secV zeroS) (fun w' _ => run_zero w' _ rfl) ?_
      simp only [Act.put, Act.eval, List.setIfInBounds_toArray, List.set_cons_succ, List.set_cons_zero, Array.getD_eq_getD_getElem?, List.getElem?_toArray, List.getElem?_cons_succ, List.getElem?_cons_zero, Option.getD_some]
      refine Reg.ord_call rfl (by simp [Region.wanted, yielded]) 11 _ (by go_simp) (build_any v13 (L ++ L) _ (htwice.step hB)) (fun W1 hb1 => ⟨hB.trans (hb1.mono hB.size), ?_⟩)
      simp only [Act.put, Act.eval, List.setIfInBounds_toArray, List.set_cons_succ, List.set_cons_zero, Array.getD_eq_getD_getElem?, List.getElem?_toArray, List.getElem?_cons_succ, List.getElem?_cons_zero, Option.getD_some]
      replace hB := hB.trans (hb1.mono hB.size)
      clear hb1
      refine ord_eqlT rfl (by simp [Region.wanted, yielded]) hB _ _ rfl _ _ (by simp [Act.eval] <;> rfl) (by simp [Act.eval] <;> rfl) (secEq_same (by rw [par_append, sxor_self])) ?_
      simp only [Act.put, Act.eval, List.setIfInBounds_toArray, List.set_cons_succ, List.set_cons_zero, Array.getD_eq_getD_getElem?, List.getElem?_toArray, List.getElem?_cons_succ, List.getElem?_cons_zero, Option.getD_some]
      refine Reg.ord_pick rfl _ _ _ rfl (by simp [Region.wanted, yielded]) hB true rfl ?_
      simp only [if_true]
      simp only [Act.put, Act.eval, List.setIfInBounds_toArray, List.set_cons_succ, List.set_cons_zero, Array.getD_eq_getD_getElem?, List.getElem?_toArray, List.getElem?_cons_succ, List.getElem?_cons_zero, Option.getD_some]
      refine Reg.ord_move rfl _ rfl (by simp [Region.wanted, yielded]) hB ?_
      simp only [Act.put, Act.eval, List.setIfInBounds_toArray, List.set_cons_succ, List.set_cons_zero, Array.getD_eq_getD_getElem?, List.getElem?_toArray, List.getElem?_cons_succ, List.getElem?_cons_zero, Option.getD_some]
      refine Reg.ord_move rfl _ rfl (by simp [Region.wanted, yielded]) hB ?_
      simp only [Act.put, Act.eval, List.setIfInBounds_toArray, List.set_cons_succ, List.set_cons_zero, Array.getD_eq_getD_getElem?, List.getElem?_toArray, List.getElem?_cons_succ, List.getElem?_cons_zero, Option.getD_some]
      refine Reg.ord_val rfl (by simp [Region.wanted, yielded]) hB _ (fun w' hS => (hst16.step hS).load mem0 _ rfl (by simp [Act.eval])) ?_
      simp only [Act.put, Act.eval, List.setIfInBounds_toArray, List.set_cons_succ, List.set_cons_zero, Array.getD_eq_getD_getElem?, List.getElem?_toArray, List.getElem?_cons_succ, List.getElem?_cons_zero, Option.getD_some]
      refine Reg.ord_move rfl _ rfl (by simp [Region.wanted, yielded]) hB ?_
      simp only [Act.put, Act.eval, List.setIfInBounds_toArray, List.set_cons_succ, List.set_cons_zero, Array.getD_eq_getD_getElem?, List.getElem?_toArray, List.getElem?_cons_succ, List.getElem?_cons_zero, Option.getD_some]
      refine Reg.ord_call rfl (by simp [Region.wanted, yielded]) 11 _ (by go_simp) (build_any v16 (L ++ K) _ (hboth.step hB)) (fun W1 hb1 => ⟨hB.trans (hb1.mono hB.size), ?_⟩)
      simp only [Act.put, Act.eval, List.setIfInBounds_toArray, List.set_cons_succ, List.set_cons_zero, Array.getD_eq_getD_getElem?, List.getElem?_toArray, List.getElem?_cons_succ, List.getElem?_cons_zero, Option.getD_some]
      replace hB := hB.trans (hb1.mono hB.size)
      clear hb1
      refine Reg.ord_call rfl (by simp [Region.wanted, yielded]) 11 _ (by go_simp) (build_any (.slice aK mK cK) K _ (hsK16.step hB)) (fun W1 hb1 => ⟨hB.trans (hb1.mono hB.size), ?_⟩)
      simp only [Act.put, Act.eval, List.setIfInBounds_toArray, List.set_cons_succ, List.set_cons_zero, Array.getD_eq_getD_getElem?, List.getElem?_toArray, List.getElem?_cons_succ, List.getElem?_cons_zero, Option.getD_some]
      replace hB := hB.trans (hb1.mono hB.size)
      clear hb1
      refine Reg.ord_call rfl (by simp [Region.wanted, yielded]) 13 _ (by go_simp) (xor_any (par L) (par K) _) (fun W1 hb1 => ⟨hB.trans (hb1.mono hB.size), ?_⟩)
      simp only [Act.put, Act.eval, List.setIfInBounds_toArray, List.set_cons_succ, List.set_cons_zero, Array.getD_eq_getD_getElem?, List.getElem?_toArray, List.getElem?_cons_succ, List.getElem?_cons_zero, Option.getD_some]
      replace hB := hB.trans (hb1.mono hB.size)
      clear hb1
      refine ord_eqlT rfl (by simp [Region.wanted, yielded]) hB _ _ rfl _ _ (by simp [Act.eval] <;> rfl) (by simp [Act.eval] <;> rfl) (secEq_same (par_append L K)) ?_
      simp only [Act.put, Act.eval, List.setIfInBounds_toArray, List.set_cons_succ, List.set_cons_zero, Array.getD_eq_getD_getElem?, List.getElem?_toArray, List.getElem?_cons_succ, List.getElem?_cons_zero, Option.getD_some]
      refine Reg.ord_pick rfl _ _ _ rfl (by simp [Region.wanted, yielded]) hB true rfl ?_
      simp only [if_true]
      simp only [Act.put, Act.eval, List.setIfInBounds_toArray, List.set_cons_succ, List.set_cons_zero, Array.getD_eq_getD_getElem?, List.getElem?_toArray, List.getElem?_cons_succ, List.getElem?_cons_zero, Option.getD_some]
      refine Reg.ord_assign rfl _ rfl (by simp [Region.wanted, yielded]) hB ?_
      simp only [Act.put, Act.eval, List.setIfInBounds_toArray, List.set_cons_succ, List.set_cons_zero, Array.getD_eq_getD_getElem?, List.getElem?_toArray, List.getElem?_cons_succ, List.getElem?_cons_zero, Option.getD_some]
      refine Reg.ord_nil ?_
      go_wp2
      go_ret
      exact ⟨rfl, hst16.below.trans (hB.mono hst16.below.size)⟩
/-! ### The row's step -/
set_option maxRecDepth 100000 in
theorem lifted (os : Os) (started : os.Started) (H : Type) (enc : TypeId × Value → H) :
    ReturnsInHanded {} Try.checked os 5 .any (Rows.parityOrderSpec.pre6 enc Try.prog Try.f5 Rows.parityOrderRow.domain false) (Rows.parityOrderSpec.post enc Try.prog Try.f5 false true false false) := by
  refine returnsInHanded_of_change (C := Try.checked) own started (by kernel_rfl) Try.func5
    (ChangeSpec.witness6 (enc := enc) (C := Try.checked) false ⟨#[], #[.slice none 0 0, .slice none 0 0], []⟩ 8 (by kernel_rfl) (by kernel_rfl) (by kernel_rfl) (by kernel_rfl)) ?_
  intro W base args ds gs before hval0 hW hcnd _
  have hval : ∀ (j : Nat) t v, Try.f5.params[j]? = some t → args[j]? = some v → Value.okWide Try.prog W .any base t v := hval0
  have hW' := hW
  obtain ⟨p, q, hA0, hV, rfl, hfz, hnd⟩ := hW
  have hA : DataW.TrodAll enc Try.prog W 0 (fun _ => true) true Try.f5.params.toList args.toList ds p := hA0
  rw [Try.params5] at hA hval
  obtain ⟨v0, vs0, d0, ds0, p0, q0, hargs, rfl, rfl, h0, r0⟩ := trodAll_cons hA
  obtain ⟨v1, vs1, d1, ds1, p1, q1, rfl, rfl, rfl, h1, r1⟩ := trodAll_cons r0
  obtain ⟨rfl, rfl, rfl⟩ := trodAll_nil r1
  obtain rfl : args = #[v0, v1] := by cases args; simp_all
  obtain ⟨rfl, rfl⟩ := trodVars_none hV
  have k0 := h0
  have lt0 : ∀ x ∈ p0, x.block < W.heap.size := by obtain ⟨m, hm⟩ := k0; exact DataW.trod_lt m _ _ _ hm
  obtain ⟨x0, hs0⟩ := open_secs (hval 0 22 v0 rfl rfl) k0
  have k1 := h1
  have lt1 : ∀ x ∈ p1, x.block < W.heap.size := by obtain ⟨m, hm⟩ := k1; exact DataW.trod_lt m _ _ _ hm
  obtain ⟨x1, hs1⟩ := open_secs (hval 1 22 v1 rfl rfl) k1
  clear hA0 hval0
  refine (walk v0 x0 v1 x1 W hs0 hs1).mono fun e W' ⟨he, bel⟩ => ?_
  subst he
  exact ⟨_, rfl, _, _, _, [], _, [], hW', trodAll_mk1 (shut_bool Try.underlying4 _), (trodAll_cons_mk (Below.trod laidOut (by kernel_rfl) (of_decide_eq_true (by kernel_rfl)) k0 bel lt0) (trodAll_cons_mk (Below.trod laidOut (by kernel_rfl) (of_decide_eq_true (by kernel_rfl)) k1 bel lt1) trodAll_mk0)), rfl, bel.frame _, fun h => by cases h⟩

theorem over : Rows.parityOrderRow.holds Try.pinned (OpenSpec.ofChange Rows.parityOrderSpec) :=
  OpenClaim.holds_of_wide 5 Try.f5 rfl rfl rfl rfl rfl rfl rfl ⟨rfl, rfl, rfl, rfl, rfl⟩ rfl rfl rfl rfl rfl (by kernel_rfl) Try.func5 (by kernel_rfl)
    (of_decide_eq_true (by kernel_rfl)) (by unfold Func.isWrapper; first | (rw [if_pos (by decide +kernel)]; kernel_rfl) | (rw [if_neg (by decide +kernel)]; exact ⟨rfl, rfl⟩))
    (fun os started H enc _ => lifted os started H enc)

/-- The statement. -/
theorem proved : Rows.ParityOrderSaid := over
#print axioms proved
end Go.Proofs.Ytpmhhfphbackdaa.order
