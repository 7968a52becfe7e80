/- ParityBack: whatever one sector is lost, it is back. The statement holds as it stands: no condition. -/
import Derived.Test.YtpmhhfphbackdaaOwn2
namespace Go.Proofs.Ytpmhhfphbackdaa.back
open Go.RowKit Go.ChangeShapes Go.WideShapes Go.ChangeAt
set_option linter.unusedSimpArgs false

/-! ### One byte of a row -/
def setByte (s : Sec) (q : Nat) (n : UInt8) : Sec := fun j => if j.val = q then n else s j
theorem rowByte {w : World} {g cap : Nat} {A : List Sec} (h : RowAt w g cap A) (i : Nat) (hi : i < A.length) (q : Nat) (hq : q < 64) :
    w.cell? ⟨g, i * 64 + q, none⟩ = some (byteV (A[i] ⟨q, hq⟩)) ∧ w.frozen? ⟨g, i * 64 + q, none⟩ = false := by
  have h1 := h.secsAt i hi q hq
  rw [Nat.zero_add] at h1
  obtain ⟨cur, h2, _⟩ := h
  exact ⟨h1, frozen_of_row _ _ _ _ _ h2⟩
theorem at_set (A : List Sec) (i : Nat) (hi : i < A.length) (s : Sec) (q : Nat) (hq : q < 64) (n : UInt8) (hs : s ⟨q, hq⟩ = n) (r t : Nat) (hr : r < (A.set i s).length) (ht : t < 64) (e1 : r = i) (e2 : t = q) : (A.set i s)[r] ⟨t, ht⟩ = n := by
  subst e1 e2
  rw [List.getElem_set_self]
  exact hs
theorem rowSet {w : World} {g cap : Nat} {A : List Sec} (h : RowAt w g cap A) (i : Nat) (hi : i < A.length) (q : Nat) (hq : q < 64) (n : UInt8) :
    RowAt (w.setCell ⟨g, i * 64 + q, none⟩ (byteV n)) g cap (A.set i (setByte A[i] q n)) := by
  obtain ⟨cur, h1, h2, h3, h4, h5⟩ := h
  refine ⟨cur.setIfInBounds (i * 64 + q) (byteV n), ?_, by simpa using h2, by simpa using h3, h4, ?_⟩
  · rw [setCell_eq_setRow w g _ _ _ _ _ h1]
    exact setRow_heap w g _ _ _ _ h1
  · have hsz : cur.toList.length = cap * 64 := by rw [Array.length_toList, h2]
    apply List.ext_getElem?
    intro k
    rw [List.length_set]
    by_cases hk : k < A.length * 64
    · rw [List.getElem?_take, if_pos hk, Array.getElem?_toList, Array.getElem?_toList]
      have hr : k / 64 < A.length := by omega
      have ht : k % 64 < 64 := by omega
      have hf := flat_get (A.set i (setByte A[i] q n)) (k / 64) (by simpa using hr) (k % 64) ht
      rw [show k / 64 * 64 + k % 64 = k by omega] at hf
      have hf0 := flat_get A (k / 64) hr (k % 64) ht
      rw [show k / 64 * 64 + k % 64 = k by omega] at hf0
      have hc : cur[k]? = (flat A)[k]? := by
        have := congrArg (·[k]?) h5
        simp only [List.getElem?_take, if_pos hk, Array.getElem?_toList] at this
        exact this
      rw [hf, Array.getElem?_setIfInBounds]
      by_cases hp : i * 64 + q = k
      · rw [if_pos hp, if_pos (by rw [← Array.length_toList, hsz]; omega)]
        have e1 : k / 64 = i := by omega
        have e2 : k % 64 = q := by omega
        exact congrArg some (congrArg byteV (at_set A i hi (setByte A[i] q n) q hq n (by simp [setByte]) (k / 64) (k % 64) (by simpa using hr) ht e1 e2).symm)
      · rw [if_neg hp, hc, hf0, List.getElem_set]
        by_cases he : i = k / 64
        · rw [if_pos he]
          have e2 : k % 64 ≠ q := by omega
          subst he
          simp only [setByte, e2, if_false]
        · rw [if_neg he]
    · rw [List.getElem?_take, if_neg hk, Array.getElem?_toList, Array.getElem?_eq_none (by rw [flat_size, List.length_set]; omega)]

/-! ### One bit -/
theorem pow_lt (k : Nat) (hk : k < 8) : 2 ^ k < 256 := Nat.pow_lt_pow_right (by omega) hk
def bitV (k : Nat) : UInt8 := UInt8.ofNat (2 ^ k)
theorem bitV_toNat (k : Nat) (hk : k < 8) : (bitV k).toNat = 2 ^ k := by
  rw [bitV, UInt8.toNat_ofNat']
  exact Nat.mod_eq_of_lt (pow_lt k hk)
theorem flip_ne (x : UInt8) (k : Nat) (hk : k < 8) : x ^^^ bitV k ≠ x := by
  intro h
  have h1 : x ^^^ (x ^^^ bitV k) = x ^^^ x := by rw [h]
  rw [← UInt8.xor_assoc, UInt8.xor_self, UInt8.zero_xor] at h1
  have h2 := bitV_toNat k hk
  rw [h1] at h2
  have := Nat.two_pow_pos k
  simp at h2
  omega
theorem run_shl (k : Nat) (hk : k < 8) (w : World) : (binOp .shl 5 (.int .u8 1) (.int .u64 k)).run Try.prog w = .ok (byteV (bitV k)) w := by
  rcases k with _ | _ | _ | _ | _ | _ | _ | _ | k <;> first | (exact absurd hk (by omega)) | rfl
theorem run_u64 (k : Nat) (hk : k < 8) (w : World) : (convert 3 34 (.int .i64 k)).run Try.prog w = .ok (.int .u64 k) w := by
  rcases k with _ | _ | _ | _ | _ | _ | _ | _ | k <;> first | (exact absurd hk (by omega)) | kernel_rfl
theorem run_quo (e m : Nat) (hm : 0 < m) (he : e < 2 ^ 32) (w : World) : (binOp .quo 3 (.int .i64 e) (.int .i64 m)).run Try.prog w = .ok (.int .i64 ((e / m : Nat) : Int)) w := by
  have hne : ¬ ((m : Int) = 0) := by omega
  have ht : (e : Int).tdiv (m : Int) = ((e / m : Nat) : Int) := by rw [Int.tdiv_eq_ediv_of_nonneg (by omega)]; rfl
  have hle : e / m ≤ e := Nat.div_le_self e m
  simp only [binOp, Op.intDiv, ne_eq, not_true_eq_false, if_false, hne]
  rw [ht]
  generalize e / m = d at *
  rw [IntWalk.i64_in _ (by omega)]
  rfl

section
variable {w : World} {ρ : Operand → Value} (o : Oper) (x y : Operand)
theorem run_op_quo (ho : o.op = .binOp .quo 3 x y 3) (e m : Nat) (hx : ρ x = .int .i64 e) (hy : ρ y = .int .i64 m) (hm : 0 < m) (he : e < 2 ^ 32) : (execOp ρ o).run Try.prog w = .ok (.value (.int .i64 ((e / m : Nat) : Int))) w := by
  have hg : ∀ p q u v, (eqGuard .quo 3 p q u v).run Try.prog w = .ok () w := fun _ _ _ _ => rfl
  unfold execOp
  simp only [ho, hx, hy, Sem.run_bind, hg, Result.andThen_ok, run_quo e m hm he, Sem.run_pure]
theorem run_op_rem (ho : o.op = .binOp .rem 3 x y 3) (e m : Nat) (hx : ρ x = .int .i64 e) (hy : ρ y = .int .i64 m) (hm : 0 < m) : (execOp ρ o).run Try.prog w = .ok (.value (.int .i64 ((e % m : Nat) : Int))) w := by
  have hg : ∀ p q u v, (eqGuard .rem 3 p q u v).run Try.prog w = .ok () w := fun _ _ _ _ => rfl
  unfold execOp
  simp only [ho, hx, hy, Sem.run_bind, hg, Result.andThen_ok, run_rem e m hm, Sem.run_pure]
theorem run_op_u64 (ho : o.op = .convert 3 34 x) (k : Nat) (hx : ρ x = .int .i64 k) (hk : k < 8) : (execOp ρ o).run Try.prog w = .ok (.value (.int .u64 k)) w := by
  unfold execOp
  simp only [ho, hx, Sem.run_bind, run_u64 k hk, Result.andThen_ok, Sem.run_pure]
theorem run_op_shl (ho : o.op = .binOp .shl 5 x y 34) (k : Nat) (hx : ρ x = .int .u8 1) (hy : ρ y = .int .u64 k) (hk : k < 8) : (execOp ρ o).run Try.prog w = .ok (.value (byteV (bitV k))) w := by
  have hg : ∀ p q u v, (eqGuard .shl 5 p q u v).run Try.prog w = .ok () w := fun _ _ _ _ => rfl
  unfold execOp
  simp only [ho, hx, hy, Sem.run_bind, hg, Result.andThen_ok, run_shl k hk, Sem.run_pure]
theorem run_op_xor (ho : o.op = .binOp .xor 5 x y 5) (a b : UInt8) (hx : ρ x = byteV a) (hy : ρ y = byteV b) : (execOp ρ o).run Try.prog w = .ok (.value (byteV (a ^^^ b))) w := by
  have hg : ∀ p q u v, (eqGuard .xor 5 p q u v).run Try.prog w = .ok () w := fun _ _ _ _ => rfl
  have hb : (binOp .xor 5 (byteV a) (byteV b)).run Try.prog w = .ok (byteV (a ^^^ b)) w := by
    rw [byteV, byteV, byteV, ← xor_u8]
    rfl
  unfold execOp
  simp only [ho, hx, hy, Sem.run_bind, hg, Result.andThen_ok, hb, Sem.run_pure]
theorem run_op_load (ho : o.op = .load 5 x) (a : Addr) (hx : ρ x = .pointer (some a)) (v : Value) (hc : w.cell? a = some v) : (execOp ρ o).run Try.prog w = .ok (.value v) w := by
  have hl : (loadVar 5 a).run Try.prog w = .ok v w := by
    unfold loadVar
    rw [Sem.run_bind, isAgg5]
    simp only [Result.andThen_ok, Bool.false_eq_true, if_false]
    rw [run_load, hc]
  unfold execOp
  simp only [ho, hx, Instr.loadAt, Instr.sureAddr, Sem.run_bind, Sem.run_pure, Result.andThen_ok, hl]
end
theorem wl_byte {ops : Array Oper} {rest : List Oper} {o : Oper} {a : Act} {W : World} {Q : Exit → Act → World → Prop} (hw : Region.wanted o (yielded ops a.tmps) = true) (x y : Operand) (ho : o.op = .store 5 x y) (ad : Addr) (n : UInt8) (u : Value) (hx : a.eval x = .pointer (some ad)) (hy : a.eval y = byteV n) (hc : W.cell? ad = some u) (hf : W.frozen? ad = false)
    (hK : wpList Try.prog ops Q rest (a.put o.dst undef) (W.setCell ad (byteV n))) : wpList Try.prog ops Q (o :: rest) a W := by
  have hst : (storeVar 5 ad (byteV n)).run Try.prog W = .ok () (W.setCell ad (byteV n)) := by
    have hsz : (sizeOf 5).run Try.prog W = .ok 1 W := by kernel_rfl
    have h0 : ad.add 0 = ad := by simp [Addr.add]
    unfold storeVar byteV
    rw [Sem.run_bind, hsz]
    simp only [Result.andThen_ok, Value.cells, List.size_toArray, List.length_cons, List.length_nil, ne_eq, Nat.zero_add, not_true_eq_false, if_false]
    simp [storeCells, Sem.run_bind, h0, run_store_int, stored, hc, hf, Result.andThen_ok]
  refine wpList_want hw fun K hK' => ?_
  unfold Oper.wp execOp
  simp only [ho, hx, hy, Instr.storeAt, Instr.sureAddr, Sem.run_bind, Sem.run_pure, Result.andThen_ok, hst]
  exact hK' _ _ hK
theorem wl_quo {ops : Array Oper} {rest : List Oper} {o : Oper} {a : Act} {W : World} {Q : Exit → Act → World → Prop} (hw : Region.wanted o (yielded ops a.tmps) = true) (x : Operand) (m : Nat) (y : Int) (ho : o.op = .binOp .quo 3 x (.const (.int .i64 y)) 3) (hy : y = m) (e : Nat) (hx : a.eval x = .int .i64 e) (hm : 0 < m) (he : e < 2 ^ 32)
    (hK : wpList Try.prog ops Q rest (a.put o.dst (.int .i64 ((e / m : Nat) : Int))) W) : wpList Try.prog ops Q (o :: rest) a W :=
  wl_run hw _ (run_op_quo o _ _ ho e m hx (by rw [← hy]; rfl) hm he) hK

/-! ### The law -/
theorem split_zero {A : List Sec} (hp : par A = zeroS) (i : Nat) (hi : i < A.length) : sxor (par (A.take i)) (par (A.drop (i + 1))) = A[i] := by
  have h := par_split A i hi
  rw [hp] at h
  funext j
  have hj := congrFun h j
  simp only [sxor, zeroS] at hj ⊢
  generalize par (A.take i) j = p at *
  generalize par (A.drop (i + 1)) j = q at *
  generalize A[i] j = x at *
  have h2 : x ^^^ (0 : UInt8) = x ^^^ (p ^^^ (x ^^^ q)) := by rw [hj]
  rw [UInt8.xor_zero, UInt8.xor_comm p, UInt8.xor_assoc x q p, ← UInt8.xor_assoc x x, UInt8.xor_self, UInt8.zero_xor, UInt8.xor_comm] at h2
  exact h2.symm
theorem reb_lost {A : List Sec} (hp : par A = zeroS) (i : Nat) (hi : i < A.length) (z : Sec) : rebS (A.set i z) i = A[i] := by
  rw [rebS, if_pos (by rw [List.length_set]; omega), Int.toNat_natCast, List.take_set_of_le (by omega), List.drop_set_of_lt (by omega)]
  exact split_zero hp i hi
theorem rebE_lost {A : List Sec} (i : Nat) (hi : i < A.length) (z : Sec) : rebE (A.set i z) i = 0 := by
  rw [rebE, if_pos (by rw [List.length_set]; omega)]
theorem par_all (L : List Sec) : par (L ++ [par L]) = zeroS := by rw [par_snoc, sxor_self]
theorem not_par {A : List Sec} (hp : par A = zeroS) (i : Nat) (hi : i < A.length) (q : Nat) (hq : q < 64) (k : Nat) (hk : k < 8) :
    isPar (A.set i (setByte A[i] q (A[i] ⟨q, hq⟩ ^^^ bitV k))) = false := by
  refine secEq_other fun h => ?_
  rw [par_set A i hi, hp, sxor_zero] at h
  have h1 := congrFun h ⟨q, hq⟩
  simp only [sxor, setByte, if_true, zeroS] at h1
  rw [← UInt8.xor_assoc, UInt8.xor_self, UInt8.zero_xor] at h1
  have h2 := bitV_toNat k hk
  rw [h1] at h2
  have := Nat.two_pow_pos k
  simp at h2
  omega

set_option maxRecDepth 100000 in
set_option maxHeartbeats 2000000 in
theorem walk (v : Value) (ss : List Sec) (z : Sec) (bit : Int) (w : World) (hs : IsSecs w v ss) (_wi : (Lit.int .i64 bit).wf = true) :
    Calls Try.prog 4 #[v, secV z, .int .i64 bit] w fun e w' => e = .returned (.bool true) ∧ Below w.heap.size w w' := by
  have hst := St.start w
  obtain ⟨a0, n, c0, rfl⟩ := hs.form
  obtain ⟨hn, hnc, hnm⟩ := hs.len
  unfold maxLen at hnm
  have hs' := hs.cut (min n 40) rfl
  obtain ⟨aL, mL, cL, hvL⟩ := hs'.form
  rw [hvL] at hs'
  have HL := Lib.hid hvL
  generalize hL : ss.take 40 = L at *
  have hL40 : L.length ≤ 40 := by rw [← hL, List.length_take]; omega
  obtain ⟨hmL, hmcL, _⟩ := hs'.len
  subst hmL
  clear hvL hs hn hL
  go_enter Try.func4, Try.ntmps4
  go_wp2_with (first
    | (with_reducible refine wl_box rfl _ rfl z rfl hst ?_; intro b1 W1 hb1 hc1 hbl1 hst1; clear hst; go_frame))
  clear hbl1 hb1 hc1
  refine (shown_any _).mono ?_
  rintro e W4 ⟨rfl, hbl4⟩
  have hst4 := hst1.step hbl4
  clear hst1 hbl4
  go_wp2_with (first
    | (refine wl_slice0 rfl rfl hst4 ?_; intro g0 W5 hg0 hcg0 hblg0 hst5 hrow0; go_frame; refine stop ?_))
  unfold Stop
  have hlt4 : b1 < W4.heap.size := hst4.lt (b := b1) (s := z) mem0
  have hge4 := hst4.below.size
  have hsL := hs'.since hst5
  clear hst4 hblg0 hs'
  go_wp2_with (first
    | (with_reducible refine wl_min40 rfl _ rfl n rfl ?_; go_frame)
    | (with_reducible refine wl_cut' rfl _ _ rfl a0 n c0 (min n 40) rfl rfl (by omega) _ HL.out ?_; go_frame)
    | (at_builtin; refine stop ?_))
  unfold Stop
  refine wl_append rfl _ _ rfl g0 _ [] ?_ (hrow0.owned (Nat.le_refl _)) _ L ?_ hsL (by simp; omega) (by omega) ?_
  · simp [Act.eval]
  · simp [Act.eval]
  intro v6 W6 hown6 hgr6
  rw [List.nil_append] at hown6
  have hst6 := hst5.grown hgr6 (fun k hk => by
    simp only [Value.ownBlock, Option.some.injEq] at hk
    subst hk
    exact ⟨by omega, by simp; omega⟩)
  have hg6 := hgr6.size
  clear hst5 hgr6 hrow0 hsL
  go_frame
  go_wp2_with fail
  refine (build_any v6 L _ hown6.isSecs).mono ?_
  rintro e W7 ⟨rfl, hbl7⟩
  have hst7 := hst6.step hbl7
  replace hown6 := hown6.step hbl7
  have hg7 := hbl7.size
  clear hst6 hbl7
  go_wp2_with (first
    | (with_reducible refine wl_slice1 rfl _ rfl _ rfl hst7 ?_; intro b8 W8 hb8 hc8 hbl8 hst8 hs8; clear hst7; replace hown6 := hown6.step hbl8; clear hbl8; go_frame; refine stop ?_))
  unfold Stop
  have hown8 := hown6.block
  refine wl_append rfl _ _ rfl g0 _ L ?_ hown6 _ [par L] ?_ hs8 (by simp; omega) (by omega) ?_
  · simp [Act.eval]
  · simp [Act.eval]
  intro v9 W9 hown9 hgr9
  have hst9 := hst8.grown hgr9 (fun k hk => by
    have := (hown8 k hk).1
    exact ⟨by omega, by simp; omega⟩)
  have hpar := par_all L
  have hAl : 0 < (L ++ [par L]).length := by simp
  have hA41 : (L ++ [par L]).length ≤ 41 := by simp; omega
  generalize L ++ [par L] = A at *
  rcases hown9.cases with ⟨_, _, _, _, h0⟩ | ⟨g, cap, rfl, hgg, hrow, _⟩
  · rw [h0] at hAl; exact absurd hAl (by simp)
  have hb1g : b1 < g := by omega
  have hwg : w.heap.size ≤ g := by omega
  clear hst8 hgr9 hown6 hown8 hown9 hs8 hb8 hc8 hg0 hcg0 hlt4 hge4 hg6 hg7 hgg
  have HP := Lib.hid hpar
  clear hpar
  go_frame
  go_wp2_with fail
  refine (check_any _ A _ hrow.isSecs).mono ?_
  rintro e W10 ⟨rfl, hbl10⟩
  have hst10 := hst9.step hbl10
  replace hrow := hrow.step hbl10
  clear hst9 hbl10
  rw [show isPar A = true from secEq_same HP.out]
  go_wp2_with fail
  have hsz10 : g < W10.heap.size := hrow.lt
  go_loopw [9] (fun k wr => ∃ j : Nat, j ≤ A.length ∧ k = .int .i64 j ∧ St w wr [(b1, z)] ∧ RowAt wr g cap A) (fun k _ => A.length - (intOf k).toNat)
  case atStart => exact ⟨0, by omega, rfl, hst10, hrow⟩
  case round =>
    obtain ⟨j, hj, rfl, hst, hrowr⟩ := hrel
    clear hst10 hrow
    by_cases hlt : j < A.length
    · have hgr := hrowr.lt
      go_wp2_with (first
        | (refine wl_slice0 rfl rfl hst ?_; intro g1 W11 hg1 hcg1 hB hst11 hrow1; clear hst11; go_frame; refine stop ?_))
      unfold Stop
      go_wp2_with (first | (at_builtin; refine stop ?_))
      unfold Stop
      refine wl_append rfl _ _ rfl g1 _ [] ?_ (hrow1.owned (Nat.le_refl _)) _ A ?_ (hrowr.isSecs.step hB) (by simp; omega) (by omega) ?_
      · simp [Act.eval]
      · simp [Act.eval]
      intro v12 W12 hown12 hgr12
      rw [List.nil_append] at hown12
      replace hB := hB.trans (Below.of_grown (B := wr.heap.size) hgr12 (by omega) (fun k hk => by simp [Value.ownBlock] at hk; omega))
      clear hgr12 hrow1
      rcases hown12.cases with ⟨_, _, _, _, h0⟩ | ⟨g2, cap2, rfl, hg2, hrow2, _⟩
      · rw [h0] at hAl; exact absurd hAl (by simp)
      go_frame
      have hst12 := hst.step hB
      clear hown12
      go_wp2_with (first
        | (with_reducible refine wl_load rfl _ rfl hst12 _ _ rfl mem0 ?_; go_frame; refine stop ?_))
      unfold Stop
      go_step
      go_step
      go_step
      refine wl_store_at rfl _ _ rfl g2 cap2 A hrow2 j hlt z ?_ ?_ ?_
      · simp [Act.eval]
      · simp [Act.eval]
      intro cs hrow3
      replace hB := hB.trans (below_setRow W12 wr.heap.size g2 cs (by omega))
      clear hst12 hrow2
      generalize W12.setRow g2 cs = W13 at *
      have hr3 := hrow3.isSecs
      rw [List.length_set] at hr3
      clear hrow3
      go_wp2_with fail
      refine (rebuild_any _ (A.set j z) (j : Int) _ hr3).mono ?_
      rintro e W14 ⟨rfl, hbl14⟩
      replace hB := hB.trans (hbl14.mono hB.size)
      clear hbl14 hr3
      rw [reb_lost HP.out j hlt z, rebE_lost j hlt z]
      have hst14 := hst.step hB
      go_wp2_with (first
        | (refine wl_new rfl rfl 11 rfl rfl _ rfl hst14 A[j] (by simp [Act.put]) (fun v => by simp [Act.eval, Act.put]) ?_; intro b15 W15 hb15 hc15 hbl15 hst15; clear hst14; replace hB := hB.trans (hbl15.mono hB.size); clear hbl15 hb15 hc15; go_frame))
      have hst16 := hst15.step Below.draws
      replace hB := hB.trans (Below.draws.mono hB.size)
      have hrow16 := hrowr.step hB
      clear hst15
      refine Reg.region_ord (S := fun w' => w' = W15.drew) [(0, 1), (1, 1), (2, 1), (3, 1), (4, 1), (5, 1), (6, 1), (7, 1), (8, 1), (9, 1)] (by kernel_rfl) (by kernel_rfl) (by decide) (by kernel_rfl) (fun _ _ _ _ _ h => h) ?_
      generalize W15.drew = W16 at *
      refine Reg.ord_val rfl (by simp [Region.wanted, yielded]) rfl _ (fun w' hS => by rw [hS]; exact hst16.load mem0 _ rfl (by simp [Act.eval])) ?_
      simp only [Act.put, Act.eval, List.setIfInBounds_toArray, List.set_cons_succ, List.set_cons_zero, Array.getD_eq_getD_getElem?, List.getElem?_toArray, List.getElem?_cons_succ, List.getElem?_cons_zero, Option.getD_some]
      refine Reg.ord_move rfl _ rfl (by simp [Region.wanted, yielded]) rfl ?_
      simp only [Act.put, Act.eval, List.setIfInBounds_toArray, List.set_cons_succ, List.set_cons_zero, Array.getD_eq_getD_getElem?, List.getElem?_toArray, List.getElem?_cons_succ, List.getElem?_cons_zero, Option.getD_some]
      refine Reg.ord_move rfl _ rfl (by simp [Region.wanted, yielded]) rfl ?_
      simp only [Act.put, Act.eval, List.setIfInBounds_toArray, List.set_cons_succ, List.set_cons_zero, Array.getD_eq_getD_getElem?, List.getElem?_toArray, List.getElem?_cons_succ, List.getElem?_cons_zero, Option.getD_some]
      refine Reg.ord_val rfl (by simp [Region.wanted, yielded]) rfl (.pointer (some ⟨g, j * 64, none⟩)) (fun w' _ => by go_simp) ?_
      simp only [Act.put, Act.eval, List.setIfInBounds_toArray, List.set_cons_succ, List.set_cons_zero, Array.getD_eq_getD_getElem?, List.getElem?_toArray, List.getElem?_cons_succ, List.getElem?_cons_zero, Option.getD_some]
      refine Reg.ord_val rfl (by simp [Region.wanted, yielded]) rfl _ (fun w' hS => by rw [hS]; exact hrow16.load j hlt _ rfl (by simp [Act.eval])) ?_
      simp only [Act.put, Act.eval, List.setIfInBounds_toArray, List.set_cons_succ, List.set_cons_zero, Array.getD_eq_getD_getElem?, List.getElem?_toArray, List.getElem?_cons_succ, List.getElem?_cons_zero, Option.getD_some]
      refine ord_neqF rfl (by simp [Region.wanted, yielded]) rfl _ _ rfl _ _ (by simp [Act.eval] <;> rfl) (by simp [Act.eval] <;> rfl) (secEq_same rfl) ?_
      simp only [Act.put, Act.eval, List.setIfInBounds_toArray, List.set_cons_succ, List.set_cons_zero, Array.getD_eq_getD_getElem?, List.getElem?_toArray, List.getElem?_cons_succ, List.getElem?_cons_zero, Option.getD_some]
      refine Reg.ord_move rfl _ rfl (by simp [Region.wanted, yielded]) rfl ?_
      simp only [Act.put, Act.eval, List.setIfInBounds_toArray, List.set_cons_succ, List.set_cons_zero, Array.getD_eq_getD_getElem?, List.getElem?_toArray, List.getElem?_cons_succ, List.getElem?_cons_zero, Option.getD_some]
      refine Reg.ord_move rfl _ rfl (by simp [Region.wanted, yielded]) rfl ?_
      simp only [Act.put, Act.eval, List.setIfInBounds_toArray, List.set_cons_succ, List.set_cons_zero, Array.getD_eq_getD_getElem?, List.getElem?_toArray, List.getElem?_cons_succ, List.getElem?_cons_zero, Option.getD_some]
      refine Reg.ord_val rfl (by simp [Region.wanted, yielded]) rfl (.bool false) (fun w' _ => by go_simp) ?_
      simp only [Act.put, Act.eval, List.setIfInBounds_toArray, List.set_cons_succ, List.set_cons_zero, Array.getD_eq_getD_getElem?, List.getElem?_toArray, List.getElem?_cons_succ, List.getElem?_cons_zero, Option.getD_some]
      refine Reg.ord_pick rfl _ _ _ rfl (by simp [Region.wanted, yielded]) rfl false rfl ?_
      simp only [Bool.false_eq_true, if_false]
      simp only [Act.put, Act.eval, List.setIfInBounds_toArray, List.set_cons_succ, List.set_cons_zero, Array.getD_eq_getD_getElem?, List.getElem?_toArray, List.getElem?_cons_succ, List.getElem?_cons_zero, Option.getD_some]
      refine Reg.ord_nil ?_
      have hstE := hst.step hB
      clear hst16 hst hrowr hB
      go_wp2
      go_roundw
      case rel => exact ⟨j + 1, by omega, by go_num, hstE, hrow16⟩
      case measure => simp [intOf]; omega
    · obtain rfl : j = A.length := by omega
      go_wp2_with (first
        | (with_reducible refine wl_mask rfl 24 (by omega) _ _ rfl rfl bit rfl ?_; go_frame; refine stop ?_))
      unfold Stop
      clear hlt
      have he : (bit % ((2 ^ 24 : Nat) : Int)).toNat < 2 ^ 24 := by
        have := Int.emod_lt_of_pos bit (show (0 : Int) < ((2 ^ 24 : Nat) : Int) by omega)
        omega
      generalize (bit % ((2 ^ 24 : Nat) : Int)).toNat = e at *
      have he32 : e < 2 ^ 32 := by omega
      go_wp2_with (first
        | (with_reducible refine wl_quo rfl _ 512 _ rfl rfl e rfl (by omega) he32 ?_; go_frame)
        | (with_reducible refine wl_rem rfl _ _ rfl (e / 512) A.length ?_ ?_ hAl ?_; simp [Act.eval]; simp [Act.eval]; go_frame; refine stop ?_))
      unfold Stop
      have hi : e / 512 % A.length < A.length := Nat.mod_lt _ hAl
      generalize e / 512 % A.length = i at *
      go_wp2_with fail
      obtain ⟨q, hq⟩ : ∃ q, q = e / 8 % 64 := ⟨_, rfl⟩
      obtain ⟨k, hk⟩ : ∃ k, k = e % 8 := ⟨_, rfl⟩
      have hq64 : q < 64 := by omega
      have hk8 : k < 8 := by omega
      have hq64i : (q : Int) < 64 := by omega
      have HQ := Lib.hid hq
      have HK8 := Lib.hid hk
      clear hq hk
      have hst2 := hst.step Below.draws
      have hrow2 := hrowr.step Below.draws
      clear hst hrowr
      refine Reg.region_ord (S := fun _ => True) [(0, 1), (1, 1), (2, 1), (3, 1), (4, 1), (5, 1), (6, 1), (7, 1), (8, 1), (9, 1), (10, 1), (11, 1), (13, 1), (14, 1), (15, 1), (16, 1), (18, 1), (12, 0), (17, 1), (19, 1), (20, 0)] (by kernel_rfl) (by kernel_rfl) (by decide) (by kernel_rfl) (fun _ _ _ _ _ h => h) ?_
      generalize wr.drew = W20 at *
      refine Reg.ord_move rfl _ rfl (by simp [Region.wanted, yielded]) trivial ?_
      simp only [Act.put, Act.eval, List.setIfInBounds_toArray, List.set_cons_succ, List.set_cons_zero, Array.getD_eq_getD_getElem?, List.getElem?_toArray, List.getElem?_cons_succ, List.getElem?_cons_zero, Option.getD_some]
      refine Reg.ord_move rfl _ rfl (by simp [Region.wanted, yielded]) trivial ?_
      simp only [Act.put, Act.eval, List.setIfInBounds_toArray, List.set_cons_succ, List.set_cons_zero, Array.getD_eq_getD_getElem?, List.getElem?_toArray, List.getElem?_cons_succ, List.getElem?_cons_zero, Option.getD_some]
      refine Reg.ord_move rfl _ rfl (by simp [Region.wanted, yielded]) trivial ?_
      simp only [Act.put, Act.eval, List.setIfInBounds_toArray, List.set_cons_succ, List.set_cons_zero, Array.getD_eq_getD_getElem?, List.getElem?_toArray, List.getElem?_cons_succ, List.getElem?_cons_zero, Option.getD_some]
      refine Reg.ord_val rfl (by simp [Region.wanted, yielded]) trivial (.int .i64 ((e / 8 : Nat) : Int)) (fun w' _ => run_op_quo _ _ _ rfl e 8 (by simp [Act.eval]) rfl (by omega) he32) ?_
      simp only [Act.put, Act.eval, List.setIfInBounds_toArray, List.set_cons_succ, List.set_cons_zero, Array.getD_eq_getD_getElem?, List.getElem?_toArray, List.getElem?_cons_succ, List.getElem?_cons_zero, Option.getD_some]
      refine Reg.ord_val rfl (by simp [Region.wanted, yielded]) trivial (.int .i64 (q : Int)) (fun w' _ => by rw [HQ.out]; exact run_op_rem _ _ _ rfl (e / 8) 64 (by simp [Act.eval]) rfl (by omega)) ?_
      simp only [Act.put, Act.eval, List.setIfInBounds_toArray, List.set_cons_succ, List.set_cons_zero, Array.getD_eq_getD_getElem?, List.getElem?_toArray, List.getElem?_cons_succ, List.getElem?_cons_zero, Option.getD_some]
      refine Reg.ord_move rfl _ rfl (by simp [Region.wanted, yielded]) trivial ?_
      simp only [Act.put, Act.eval, List.setIfInBounds_toArray, List.set_cons_succ, List.set_cons_zero, Array.getD_eq_getD_getElem?, List.getElem?_toArray, List.getElem?_cons_succ, List.getElem?_cons_zero, Option.getD_some]
      refine Reg.ord_move rfl _ rfl (by simp [Region.wanted, yielded]) trivial ?_
      simp only [Act.put, Act.eval, List.setIfInBounds_toArray, List.set_cons_succ, List.set_cons_zero, Array.getD_eq_getD_getElem?, List.getElem?_toArray, List.getElem?_cons_succ, List.getElem?_cons_zero, Option.getD_some]
      refine Reg.ord_move rfl _ rfl (by simp [Region.wanted, yielded]) trivial ?_
      simp only [Act.put, Act.eval, List.setIfInBounds_toArray, List.set_cons_succ, List.set_cons_zero, Array.getD_eq_getD_getElem?, List.getElem?_toArray, List.getElem?_cons_succ, List.getElem?_cons_zero, Option.getD_some]
      refine Reg.ord_val rfl (by simp [Region.wanted, yielded]) trivial (.int .i64 ((e / 8 : Nat) : Int)) (fun w' _ => run_op_quo _ _ _ rfl e 8 (by simp [Act.eval]) rfl (by omega) he32) ?_
      simp only [Act.put, Act.eval, List.setIfInBounds_toArray, List.set_cons_succ, List.set_cons_zero, Array.getD_eq_getD_getElem?, List.getElem?_toArray, List.getElem?_cons_succ, List.getElem?_cons_zero, Option.getD_some]
      refine Reg.ord_val rfl (by simp [Region.wanted, yielded]) trivial (.int .i64 (q : Int)) (fun w' _ => by rw [HQ.out]; exact run_op_rem _ _ _ rfl (e / 8) 64 (by simp [Act.eval]) rfl (by omega)) ?_
      simp only [Act.put, Act.eval, List.setIfInBounds_toArray, List.set_cons_succ, List.set_cons_zero, Array.getD_eq_getD_getElem?, List.getElem?_toArray, List.getElem?_cons_succ, List.getElem?_cons_zero, Option.getD_some]
      refine Reg.ord_val rfl (by simp [Region.wanted, yielded]) trivial (.pointer (some ⟨g, i * 64, none⟩)) (fun w' _ => by go_simp) ?_
      simp only [Act.put, Act.eval, List.setIfInBounds_toArray, List.set_cons_succ, List.set_cons_zero, Array.getD_eq_getD_getElem?, List.getElem?_toArray, List.getElem?_cons_succ, List.getElem?_cons_zero, Option.getD_some]
      refine Reg.ord_val rfl (by simp [Region.wanted, yielded]) trivial (.pointer (some ⟨g, i * 64 + q, none⟩)) (fun w' _ => by go_simp) ?_
      simp only [Act.put, Act.eval, List.setIfInBounds_toArray, List.set_cons_succ, List.set_cons_zero, Array.getD_eq_getD_getElem?, List.getElem?_toArray, List.getElem?_cons_succ, List.getElem?_cons_zero, Option.getD_some]
      refine Reg.ord_move rfl _ rfl (by simp [Region.wanted, yielded]) trivial ?_
      simp only [Act.put, Act.eval, List.setIfInBounds_toArray, List.set_cons_succ, List.set_cons_zero, Array.getD_eq_getD_getElem?, List.getElem?_toArray, List.getElem?_cons_succ, List.getElem?_cons_zero, Option.getD_some]
      refine Reg.ord_val rfl (by simp [Region.wanted, yielded]) trivial (.int .i64 (k : Int)) (fun w' _ => by rw [HK8.out]; exact run_op_rem _ _ _ rfl e 8 (by simp [Act.eval]) rfl (by omega)) ?_
      simp only [Act.put, Act.eval, List.setIfInBounds_toArray, List.set_cons_succ, List.set_cons_zero, Array.getD_eq_getD_getElem?, List.getElem?_toArray, List.getElem?_cons_succ, List.getElem?_cons_zero, Option.getD_some]
      refine Reg.ord_val rfl (by simp [Region.wanted, yielded]) trivial (.int .u64 (k : Int)) (fun w' _ => run_op_u64 _ _ rfl k (by simp [Act.eval]) hk8) ?_
      simp only [Act.put, Act.eval, List.setIfInBounds_toArray, List.set_cons_succ, List.set_cons_zero, Array.getD_eq_getD_getElem?, List.getElem?_toArray, List.getElem?_cons_succ, List.getElem?_cons_zero, Option.getD_some]
      refine Reg.ord_val rfl (by simp [Region.wanted, yielded]) trivial (byteV (bitV k)) (fun w' _ => run_op_shl _ _ _ rfl k rfl (by simp [Act.eval]) hk8) ?_
      simp only [Act.put, Act.eval, List.setIfInBounds_toArray, List.set_cons_succ, List.set_cons_zero, Array.getD_eq_getD_getElem?, List.getElem?_toArray, List.getElem?_cons_succ, List.getElem?_cons_zero, Option.getD_some]
      refine Reg.ord_val rfl (by simp [Region.wanted, yielded]) trivial (.pointer (some ⟨g, i * 64, none⟩)) (fun w' _ => by go_simp) ?_
      simp only [Act.put, Act.eval, List.setIfInBounds_toArray, List.set_cons_succ, List.set_cons_zero, Array.getD_eq_getD_getElem?, List.getElem?_toArray, List.getElem?_cons_succ, List.getElem?_cons_zero, Option.getD_some]
      obtain ⟨hcell, hfrz⟩ := rowByte hrow2 i hi q hq64
      refine Reg.ord_step rfl ?_
      refine wl_run (by simp [Region.wanted, yielded]) _ (run_op_load _ _ rfl ⟨g, i * 64 + q, none⟩ (by simp [Act.eval]) _ hcell) ?_
      refine wpList_nil ⟨trivial, ?_⟩
      simp only [Act.put, Act.eval, List.setIfInBounds_toArray, List.set_cons_succ, List.set_cons_zero, Array.getD_eq_getD_getElem?, List.getElem?_toArray, List.getElem?_cons_succ, List.getElem?_cons_zero, Option.getD_some]
      refine Reg.ord_val rfl (by simp [Region.wanted, yielded]) trivial (byteV (A[i] ⟨q, hq64⟩ ^^^ bitV k)) (fun w' _ => run_op_xor _ _ _ rfl _ _ (by simp [Act.eval]) (by simp [Act.eval])) ?_
      simp only [Act.put, Act.eval, List.setIfInBounds_toArray, List.set_cons_succ, List.set_cons_zero, Array.getD_eq_getD_getElem?, List.getElem?_toArray, List.getElem?_cons_succ, List.getElem?_cons_zero, Option.getD_some]
      refine Reg.ord_val rfl (by simp [Region.wanted, yielded]) trivial (.pointer (some ⟨g, i * 64 + q, none⟩)) (fun w' _ => by go_simp) ?_
      simp only [Act.put, Act.eval, List.setIfInBounds_toArray, List.set_cons_succ, List.set_cons_zero, Array.getD_eq_getD_getElem?, List.getElem?_toArray, List.getElem?_cons_succ, List.getElem?_cons_zero, Option.getD_some]
      refine Reg.ord_step rfl ?_
      have hrow3 := rowSet hrow2 i hi q hq64 (A[i] ⟨q, hq64⟩ ^^^ bitV k)
      have hnot := not_par HP.out i hi q hq64 k hk8
      have hst3 : St w (W20.setCell ⟨g, i * 64 + q, none⟩ (byteV (A[i] ⟨q, hq64⟩ ^^^ bitV k))) [(b1, z)] := by
        obtain ⟨cur, h1, _⟩ := hrow2
        rw [setCell_eq_setRow W20 g _ _ _ _ _ h1]
        exact hst2.setRow g _ hwg (by simp; omega)
      refine wl_byte (by simp [Region.wanted, yielded]) _ _ rfl ⟨g, i * 64 + q, none⟩ (A[i] ⟨q, hq64⟩ ^^^ bitV k) _ (by simp [Act.eval]) (by simp [Act.eval]) hcell hfrz ?_
      refine wpList_nil ⟨trivial, ?_⟩
      simp only [Act.put, Act.eval, List.setIfInBounds_toArray, List.set_cons_succ, List.set_cons_zero, Array.getD_eq_getD_getElem?, List.getElem?_toArray, List.getElem?_cons_succ, List.getElem?_cons_zero, Option.getD_some]
      refine Reg.ord_nil ?_
      clear hst2 hrow2 hcell hfrz
      generalize W20.setCell ⟨g, i * 64 + q, none⟩ (byteV (A[i] ⟨q, hq64⟩ ^^^ bitV k)) = W21 at *
      have hr3 := hrow3.isSecs
      rw [List.length_set] at hr3
      go_wp2_with fail
      refine (check_any _ _ _ hr3).mono ?_
      rintro e2 W22 ⟨rfl, hbl22⟩
      have hst4 := hst3.step hbl22
      rw [hnot]
      go_wp2
      go_ret
      exact ⟨rfl, hst4.below⟩
/-! ### The row's step -/
set_option maxRecDepth 100000 in
theorem lifted (os : Os) (started : os.Started) (H : Type) (enc : TypeId × Value → H) :
    ReturnsInHanded {} Try.checked os 4 .any (Rows.parityBackSpec.pre6 enc Try.prog Try.f4 Rows.parityBackRow.domain false) (Rows.parityBackSpec.post enc Try.prog Try.f4 false true false false) := by
  refine returnsInHanded_of_change (C := Try.checked) own started (by kernel_rfl) Try.func4
    (ChangeSpec.witness6 (enc := enc) (C := Try.checked) false ⟨#[], #[.slice none 0 0, secV zeroS, .int .i64 0], []⟩ 8 (by kernel_rfl) (by kernel_rfl) (by kernel_rfl) (by kernel_rfl)) ?_
  intro W base args ds gs before hval0 hW hcnd _
  have hval : ∀ (j : Nat) t v, Try.f4.params[j]? = some t → args[j]? = some v → Value.okWide Try.prog W .any base t v := hval0
  have hW' := hW
  obtain ⟨p, q, hA0, hV, rfl, hfz, hnd⟩ := hW
  have hA : DataW.TrodAll enc Try.prog W 0 (fun _ => true) true Try.f4.params.toList args.toList ds p := hA0
  rw [Try.params4] at hA hval
  obtain ⟨v0, vs0, d0, ds0, p0, q0, hargs, rfl, rfl, h0, r0⟩ := trodAll_cons hA
  obtain ⟨v1, vs1, d1, ds1, p1, q1, rfl, rfl, rfl, h1, r1⟩ := trodAll_cons r0
  obtain ⟨v2, vs2, d2, ds2, p2, q2, rfl, rfl, rfl, h2, r2⟩ := trodAll_cons r1
  obtain ⟨rfl, rfl, rfl⟩ := trodAll_nil r2
  obtain rfl : args = #[v0, v1, v2] := by cases args; simp_all
  obtain ⟨rfl, rfl⟩ := trodVars_none hV
  have k0 := h0
  have lt0 : ∀ x ∈ p0, x.block < W.heap.size := by obtain ⟨m, hm⟩ := k0; exact DataW.trod_lt m _ _ _ hm
  obtain ⟨x0, hs0⟩ := open_secs (hval 0 22 v0 rfl rfl) k0
  have k1 := h1
  have lt1 : ∀ x ∈ p1, x.block < W.heap.size := by obtain ⟨m, hm⟩ := k1; exact DataW.trod_lt m _ _ _ hm
  obtain ⟨x1, rfl⟩ := open_sec (hval 1 24 v1 rfl rfl) k1
  have k2 := h2
  clear h2
  obtain ⟨x2, rfl, rfl, rfl, w2⟩ := open_int Try.underlying3 (hval 2 3 v2 rfl rfl) k2
  clear hA0 hval0
  refine (walk v0 x0 x1 x2 W hs0 w2).mono fun e W' ⟨he, bel⟩ => ?_
  subst he
  exact ⟨_, rfl, _, _, _, [], _, [], hW', trodAll_mk1 (shut_bool Try.underlying4 _), (trodAll_cons_mk (Below.trod laidOut (by kernel_rfl) (of_decide_eq_true (by kernel_rfl)) k0 bel lt0) (trodAll_cons_mk (Below.trod laidOut (by kernel_rfl) (of_decide_eq_true (by kernel_rfl)) k1 bel lt1) (trodAll_cons_mk (shut_int Try.underlying3 w2) trodAll_mk0))), rfl, bel.frame _, fun h => by cases h⟩

theorem over : Rows.parityBackRow.holds Try.pinned (OpenSpec.ofChange Rows.parityBackSpec) :=
  OpenClaim.holds_of_wide 4 Try.f4 rfl rfl rfl rfl rfl rfl rfl ⟨rfl, rfl, rfl, rfl, rfl⟩ rfl rfl rfl rfl rfl (by kernel_rfl) Try.func4 (by kernel_rfl)
    (of_decide_eq_true (by kernel_rfl)) (by unfold Func.isWrapper; first | (rw [if_pos (by decide +kernel)]; kernel_rfl) | (rw [if_neg (by decide +kernel)]; exact ⟨rfl, rfl⟩))
    (fun os started H enc _ => lifted os started H enc)

/-- The statement. -/
theorem proved : Rows.ParityBackSaid := over
#print axioms proved
end Go.Proofs.Ytpmhhfphbackdaa.back
