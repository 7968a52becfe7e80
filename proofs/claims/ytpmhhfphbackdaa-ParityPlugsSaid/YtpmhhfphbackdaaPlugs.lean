/- ParityPlugs: who changes one sector knows the new parity. The statement holds as it stands: no condition. -/
import Derived.Test.YtpmhhfphbackdaaOwn
namespace Go.Proofs.Ytpmhhfphbackdaa.plugs
open Go.RowKit Go.ChangeShapes Go.WideShapes Go.ChangeAt
set_option linter.unusedSimpArgs false

theorem eqBack (x p z : Sec) : secEq (sxor (sxor z (sxor (sxor x p) z)) x) p = true := secEq_same (by
  funext j
  simp only [sxor]
  generalize x j = x
  generalize p j = p
  generalize z j = z
  rw [UInt8.xor_comm z, UInt8.xor_assoc _ z z, UInt8.xor_self, UInt8.xor_zero, UInt8.xor_comm x p, UInt8.xor_assoc p x x, UInt8.xor_self, UInt8.xor_zero])

set_option maxRecDepth 100000 in
set_option maxHeartbeats 1000000 in
theorem walk (v : Value) (ss : List Sec) (i : Int) (z : Sec) (w : World) (hs : IsSecs w v ss) (_wi : (Lit.int .i64 i).wf = true) :
    Calls Try.prog 6 #[v, .int .i64 i, secV z] w fun e w' => e = .returned (.bool true) ∧ Below w.heap.size w w' := by
  have hst := St.start w
  obtain ⟨a, n, c, rfl⟩ := hs.form
  obtain ⟨hn, hnc, hnm⟩ := hs.len
  unfold maxLen at hnm
  go_enter Try.func6, Try.ntmps6
  go_wp2_with (first
    | (with_reducible refine wl_box rfl _ rfl z rfl hst ?_; intro b5 W5 hb5 hc5 hbl5 hst5; clear hst; go_frame))
  refine (shown_any _).mono ?_
  rintro e W6 ⟨rfl, hbl6⟩
  have hst6 := hst5.step hbl6
  clear hst5
  have HN := Lib.hid hn
  clear hn
  go_wp2_with (first
    | (refine wl_slice0 rfl rfl hst6 ?_; intro g0 W7 hg0 hcg0 hblg0 hst7 hrow0; clear hst6; go_frame)
    | (with_reducible refine wl_min40 rfl _ rfl n rfl ?_; go_frame)
    | (with_reducible refine wl_cut rfl _ _ rfl a n c (min n 40) rfl rfl (by omega) ?_; go_frame)
    | (at_builtin; refine wl_append rfl _ _ rfl g0 _ [] rfl (hrow0.owned (Nat.le_refl _)) _ (ss.take 40) rfl ((hs.since hst7).cut _ rfl) (by rw [List.length_take, List.length_nil]; omega) (by omega) ?_))
  intro v8 W8 hown8 hgr8
  have hsz0 := hbl5.size
  have hsz1 := hbl6.size
  have hst8 : St w W8 [(b5, z)] := hst7.grown hgr8 (fun k hk => by
    simp only [Value.ownBlock, Option.some.injEq] at hk
    subst hk
    exact ⟨by omega, by simp; omega⟩)
  have hsz : W7.heap.size ≤ W8.heap.size := hgr8.size
  generalize hD : ss.take 40 = D at *
  have hD40 : D.length ≤ 40 := by rw [← hD, List.length_take]; omega
  clear hD hs hst7 hrow0 hgr8 hbl5 hbl6 hblg0 HN
  rcases hown8.cases with ⟨a8, c8, rfl, _, rfl⟩ | ⟨g, cap, rfl, hgg, hrow, hpos⟩
  · go_wp2
    go_ret
    exact ⟨rfl, hst8.below⟩
  · have hne : ((D.length : Int) == 0) = false := by rw [beq_eq_false_iff_ne]; omega
    have hgl := hrow.lt
    go_wp2_with (first
      | (with_reducible refine wl_mask rfl 16 (by omega) _ _ rfl rfl i rfl ?_; go_frame)
      | (with_reducible refine wl_rem rfl _ _ rfl _ D.length rfl rfl hpos ?_; go_frame))
    have hk : (i % ((2 ^ 16 : Nat) : Int)).toNat % D.length < D.length := Nat.mod_lt _ hpos
    generalize (i % ((2 ^ 16 : Nat) : Int)).toNat % D.length = k at *
    refine (build_any _ D _ hrow.isSecs).mono ?_
    rintro e W9 ⟨rfl, hbl9⟩
    have hst9 := hst8.step hbl9
    replace hrow := hrow.step hbl9
    have hsz9 := hbl9.size
    clear hst8 hbl9
    go_wp2_with (first
      | (refine wl_new rfl rfl 9 rfl rfl _ rfl hst9 (par D) (by simp [Act.put]) (fun v => by simp [Act.eval, Act.put]) ?_; intro b10 W10 hb10 hc10 hbl10 hst10; clear hst9; replace hrow := hrow.step hbl10; clear hbl10; go_frame)
      | ((with_reducible refine wl_load_own rfl _ rfl g cap D hrow k hk ?_ ?_)
         · simp [Act.eval]
         go_frame)
      | (refine wl_new rfl rfl 10 rfl rfl _ rfl hst10 D[k] (by simp [Act.put]) (fun v => by simp [Act.eval, Act.put]) ?_; intro b11 W11 hb11 hc11 hbl11 hst11; clear hst10; replace hrow := hrow.step hbl11; clear hbl11; go_frame)
      | (with_reducible refine wl_load rfl _ rfl hst11 _ _ rfl (by first | exact mem0 | exact mem1 | exact mem2) ?_; go_frame; refine stop ?_))
    unfold Stop
    go_step
    go_step
    go_step
    refine wl_store_at rfl _ _ rfl g cap D hrow k hk z ?_ ?_ ?_
    · simp [Act.eval]
    · simp [Act.eval]
    intro cs hrow'
    clear hrow
    have hst12 := hst11.setRow g cs (by omega) (by simp; omega)
    have hsz12 : (W11.setRow g cs).heap.size = W11.heap.size := by simp
    generalize W11.setRow g cs = W12 at *
    clear hst11
    go_wp2_with (first
      | (with_reducible refine wl_load rfl _ rfl hst12 _ _ rfl (by first | exact mem0 | exact mem1 | exact mem2) ?_; go_frame))
    refine (plug_any D[k] (par D) z _).mono ?_
    rintro e W13 ⟨rfl, hbl13⟩
    have hst13 := hst12.step hbl13
    replace hrow' := hrow'.step hbl13
    clear hst12 hbl13
    go_wp2_with (first
      | (refine wl_new rfl rfl 11 rfl rfl _ rfl hst13 (sxor (sxor D[k] (par D)) z) (by simp [Act.put]) (fun v => by simp [Act.eval, Act.put]) ?_; intro b14 W14 hb14 hc14 hbl14 hst14; clear hst13; replace hrow' := hrow'.step hbl14; clear hbl14; go_frame))
    have hst := hst14.step Below.draws
    replace hrow' := hrow'.step Below.draws
    clear hst14 hb5 hc5 hg0 hcg0 hsz0 hsz1 hsz hgl hgg hsz9 hb10 hc10 hb11 hc11 hsz12 hb14 hc14
    refine Reg.region_ord (S := fun w' => St w w' [(b14, sxor (sxor D[k] (par D)) z), (b11, D[k]), (b10, par D), (b5, z)]) [(0, 1), (1, 1), (2, 1), (3, 1), (4, 0), (5, 1), (6, 1), (7, 1), (8, 1), (9, 1), (10, 1), (12, 1), (11, 0), (13, 1), (14, 1), (15, 1)] (by kernel_rfl) (by kernel_rfl) (by decide) (by kernel_rfl) (fun _ _ _ _ _ h => h) ?_
    generalize W14.drew = W15 at *
    refine Reg.ord_move rfl _ rfl (by simp [Region.wanted, yielded]) hst ?_
    simp only [Act.put, Act.eval, List.setIfInBounds_toArray, List.set_cons_succ, List.set_cons_zero, Array.getD_eq_getD_getElem?, List.getElem?_toArray, List.getElem?_cons_succ, List.getElem?_cons_zero, Option.getD_some]
    refine Reg.ord_move rfl _ rfl (by simp [Region.wanted, yielded]) hst ?_
    simp only [Act.put, Act.eval, List.setIfInBounds_toArray, List.set_cons_succ, List.set_cons_zero, Array.getD_eq_getD_getElem?, List.getElem?_toArray, List.getElem?_cons_succ, List.getElem?_cons_zero, Option.getD_some]
    refine Reg.ord_val rfl (by simp [Region.wanted, yielded]) hst _ (fun w' hS => hS.load mem0 _ rfl (by simp [Act.eval])) ?_
    simp only [Act.put, Act.eval, List.setIfInBounds_toArray, List.set_cons_succ, List.set_cons_zero, Array.getD_eq_getD_getElem?, List.getElem?_toArray, List.getElem?_cons_succ, List.getElem?_cons_zero, Option.getD_some]
    refine Reg.ord_move rfl _ rfl (by simp [Region.wanted, yielded]) hst ?_
    simp only [Act.put, Act.eval, List.setIfInBounds_toArray, List.set_cons_succ, List.set_cons_zero, Array.getD_eq_getD_getElem?, List.getElem?_toArray, List.getElem?_cons_succ, List.getElem?_cons_zero, Option.getD_some]
    refine Reg.ord_call rfl (by simp [Region.wanted, yielded]) 11 _ (by go_simp) (build_any (.slice (some ⟨g, 0, none⟩) D.length cap) (D.set k z) _ (by simpa using hrow'.isSecs)) (fun W1 hb1 => ⟨hst.step hb1, ?_⟩)
    simp only [Act.put, Act.eval, List.setIfInBounds_toArray, List.set_cons_succ, List.set_cons_zero, Array.getD_eq_getD_getElem?, List.getElem?_toArray, List.getElem?_cons_succ, List.getElem?_cons_zero, Option.getD_some]
    replace hst := hst.step hb1
    clear hb1
    refine ord_eqlT rfl (by simp [Region.wanted, yielded]) hst _ _ rfl _ _ (by simp [Act.eval] <;> rfl) (by simp [Act.eval] <;> rfl) (secEq_same (par_set D k hk z).symm) ?_
    simp only [Act.put, Act.eval, List.setIfInBounds_toArray, List.set_cons_succ, List.set_cons_zero, Array.getD_eq_getD_getElem?, List.getElem?_toArray, List.getElem?_cons_succ, List.getElem?_cons_zero, Option.getD_some]
    refine Reg.ord_pick rfl _ _ _ rfl (by simp [Region.wanted, yielded]) hst true rfl ?_
    simp only [if_true]
    simp only [Act.put, Act.eval, List.setIfInBounds_toArray, List.set_cons_succ, List.set_cons_zero, Array.getD_eq_getD_getElem?, List.getElem?_toArray, List.getElem?_cons_succ, List.getElem?_cons_zero, Option.getD_some]
    refine Reg.ord_move rfl _ rfl (by simp [Region.wanted, yielded]) hst ?_
    simp only [Act.put, Act.eval, List.setIfInBounds_toArray, List.set_cons_succ, List.set_cons_zero, Array.getD_eq_getD_getElem?, List.getElem?_toArray, List.getElem?_cons_succ, List.getElem?_cons_zero, Option.getD_some]
    refine Reg.ord_val rfl (by simp [Region.wanted, yielded]) hst _ (fun w' hS => hS.load mem3 _ rfl (by simp [Act.eval])) ?_
    simp only [Act.put, Act.eval, List.setIfInBounds_toArray, List.set_cons_succ, List.set_cons_zero, Array.getD_eq_getD_getElem?, List.getElem?_toArray, List.getElem?_cons_succ, List.getElem?_cons_zero, Option.getD_some]
    refine Reg.ord_val rfl (by simp [Region.wanted, yielded]) hst _ (fun w' hS => hS.load mem0 _ rfl (by simp [Act.eval])) ?_
    simp only [Act.put, Act.eval, List.setIfInBounds_toArray, List.set_cons_succ, List.set_cons_zero, Array.getD_eq_getD_getElem?, List.getElem?_toArray, List.getElem?_cons_succ, List.getElem?_cons_zero, Option.getD_some]
    refine Reg.ord_val rfl (by simp [Region.wanted, yielded]) hst _ (fun w' hS => hS.load mem1 _ rfl (by simp [Act.eval])) ?_
    simp only [Act.put, Act.eval, List.setIfInBounds_toArray, List.set_cons_succ, List.set_cons_zero, Array.getD_eq_getD_getElem?, List.getElem?_toArray, List.getElem?_cons_succ, List.getElem?_cons_zero, Option.getD_some]
    refine Reg.ord_val rfl (by simp [Region.wanted, yielded]) hst _ (fun w' hS => hS.load mem2 _ rfl (by simp [Act.eval])) ?_
    simp only [Act.put, Act.eval, List.setIfInBounds_toArray, List.set_cons_succ, List.set_cons_zero, Array.getD_eq_getD_getElem?, List.getElem?_toArray, List.getElem?_cons_succ, List.getElem?_cons_zero, Option.getD_some]
    refine Reg.ord_call rfl (by simp [Region.wanted, yielded]) 15 _ (by go_simp) (plug_any z (sxor (sxor D[k] (par D)) z) D[k] _) (fun W1 hb1 => ⟨hst.step hb1, ?_⟩)
    simp only [Act.put, Act.eval, List.setIfInBounds_toArray, List.set_cons_succ, List.set_cons_zero, Array.getD_eq_getD_getElem?, List.getElem?_toArray, List.getElem?_cons_succ, List.getElem?_cons_zero, Option.getD_some]
    replace hst := hst.step hb1
    clear hb1
    refine ord_eqlT rfl (by simp [Region.wanted, yielded]) hst _ _ rfl _ _ (by simp [Act.eval] <;> rfl) (by simp [Act.eval] <;> rfl) (eqBack D[k] (par D) z) ?_
    simp only [Act.put, Act.eval, List.setIfInBounds_toArray, List.set_cons_succ, List.set_cons_zero, Array.getD_eq_getD_getElem?, List.getElem?_toArray, List.getElem?_cons_succ, List.getElem?_cons_zero, Option.getD_some]
    refine Reg.ord_pick rfl _ _ _ rfl (by simp [Region.wanted, yielded]) hst true rfl ?_
    simp only [if_true]
    simp only [Act.put, Act.eval, List.setIfInBounds_toArray, List.set_cons_succ, List.set_cons_zero, Array.getD_eq_getD_getElem?, List.getElem?_toArray, List.getElem?_cons_succ, List.getElem?_cons_zero, Option.getD_some]
    refine Reg.ord_assign rfl _ rfl (by simp [Region.wanted, yielded]) hst ?_
    simp only [Act.put, Act.eval, List.setIfInBounds_toArray, List.set_cons_succ, List.set_cons_zero, Array.getD_eq_getD_getElem?, List.getElem?_toArray, List.getElem?_cons_succ, List.getElem?_cons_zero, Option.getD_some]
    refine Reg.ord_nil ?_
    go_wp2
    go_ret
    exact ⟨rfl, hst.below⟩
/-! ### The row's step -/
set_option maxRecDepth 100000 in
theorem lifted (os : Os) (started : os.Started) (H : Type) (enc : TypeId × Value → H) :
    ReturnsInHanded {} Try.checked os 6 .any (Rows.parityPlugsSpec.pre6 enc Try.prog Try.f6 Rows.parityPlugsRow.domain false) (Rows.parityPlugsSpec.post enc Try.prog Try.f6 false true false false) := by
  refine returnsInHanded_of_change (C := Try.checked) own started (by kernel_rfl) Try.func6
    (ChangeSpec.witness6 (enc := enc) (C := Try.checked) false ⟨#[], #[.slice none 0 0, .int .i64 0, secV zeroS], []⟩ 8 (by kernel_rfl) (by kernel_rfl) (by kernel_rfl) (by kernel_rfl)) ?_
  intro W base args ds gs before hval0 hW hcnd _
  have hval : ∀ (j : Nat) t v, Try.f6.params[j]? = some t → args[j]? = some v → Value.okWide Try.prog W .any base t v := hval0
  have hW' := hW
  obtain ⟨p, q, hA0, hV, rfl, hfz, hnd⟩ := hW
  have hA : DataW.TrodAll enc Try.prog W 0 (fun _ => true) true Try.f6.params.toList args.toList ds p := hA0
  rw [Try.params6] at hA hval
  obtain ⟨v0, vs0, d0, ds0, p0, q0, hargs, rfl, rfl, h0, r0⟩ := trodAll_cons hA
  obtain ⟨v1, vs1, d1, ds1, p1, q1, rfl, rfl, rfl, h1, r1⟩ := trodAll_cons r0
  obtain ⟨v2, vs2, d2, ds2, p2, q2, rfl, rfl, rfl, h2, r2⟩ := trodAll_cons r1
  obtain ⟨rfl, rfl, rfl⟩ := trodAll_nil r2
  obtain rfl : args = #[v0, v1, v2] := by cases args; simp_all
  obtain ⟨rfl, rfl⟩ := trodVars_none hV
  have k0 := h0
  have lt0 : ∀ x ∈ p0, x.block < W.heap.size := by obtain ⟨m, hm⟩ := k0; exact DataW.trod_lt m _ _ _ hm
  obtain ⟨x0, hs0⟩ := open_secs (hval 0 22 v0 rfl rfl) k0
  have k1 := h1
  clear h1
  obtain ⟨x1, rfl, rfl, rfl, w1⟩ := open_int Try.underlying3 (hval 1 3 v1 rfl rfl) k1
  have k2 := h2
  have lt2 : ∀ x ∈ p2, x.block < W.heap.size := by obtain ⟨m, hm⟩ := k2; exact DataW.trod_lt m _ _ _ hm
  obtain ⟨x2, rfl⟩ := open_sec (hval 2 24 v2 rfl rfl) k2
  clear hA0 hval0
  refine (walk v0 x0 x1 x2 W hs0 w1).mono fun e W' ⟨he, bel⟩ => ?_
  subst he
  exact ⟨_, rfl, _, _, _, [], _, [], hW', trodAll_mk1 (shut_bool Try.underlying4 _), (trodAll_cons_mk (Below.trod laidOut (by kernel_rfl) (of_decide_eq_true (by kernel_rfl)) k0 bel lt0) (trodAll_cons_mk (shut_int Try.underlying3 w1) (trodAll_cons_mk (Below.trod laidOut (by kernel_rfl) (of_decide_eq_true (by kernel_rfl)) k2 bel lt2) trodAll_mk0))), rfl, bel.frame _, fun h => by cases h⟩

theorem over : Rows.parityPlugsRow.holds Try.pinned (OpenSpec.ofChange Rows.parityPlugsSpec) :=
  OpenClaim.holds_of_wide 6 Try.f6 rfl rfl rfl rfl rfl rfl rfl ⟨rfl, rfl, rfl, rfl, rfl⟩ rfl rfl rfl rfl rfl (by kernel_rfl) Try.func6 (by kernel_rfl)
    (of_decide_eq_true (by kernel_rfl)) (by unfold Func.isWrapper; first | (rw [if_pos (by decide +kernel)]; kernel_rfl) | (rw [if_neg (by decide +kernel)]; exact ⟨rfl, rfl⟩))
    (fun os started H enc _ => lifted os started H enc)

/-- The statement. -/
theorem proved : Rows.ParityPlugsSaid := over
#print axioms proved
end Go.Proofs.Ytpmhhfphbackdaa.plugs
