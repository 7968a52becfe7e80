/- The walks of parity.Rebuild and of the document's own Xor, Build, Plug, Rebuild. -/
import Derived.Test.YtpmhhfphbackdaaWalk
import Derived.Test.YtpmhhfphbackdaaRegion
namespace Go.Proofs.Ytpmhhfphbackdaa
open Go.RowKit
set_option linter.unusedSimpArgs false

/-- Where a cut of a slice begins and how it reads. -/
theorem IsSecs.take {W : World} {b o c : Nat} {ss : List Sec} (h : SecsAt W b o ss) (hm : ss.length ≤ maxLen) (hc : ss.length ≤ c) (k : Nat) (hk : k ≤ ss.length) : IsSecs W (.slice (some ⟨b, o, none⟩) k c) (ss.take k) := by
  by_cases h0 : k = 0
  · subst h0; exact .inl ⟨_, _, rfl, by simp, by simp⟩
  · refine .inr ⟨b, o, c, by rw [List.length_take, Nat.min_eq_left hk], ?_, by rw [List.length_take]; omega, by rw [List.length_take]; omega, ?_⟩
    · intro e; have := congrArg List.length e; rw [List.length_take, List.length_nil] at this; omega
    · intro i hi j hj
      rw [List.length_take] at hi
      rw [h i (by omega) j hj, List.getElem_take]
theorem IsSecs.drop {W : World} {b o c : Nat} {ss : List Sec} (h : SecsAt W b o ss) (hm : ss.length ≤ maxLen) (hc : ss.length ≤ c) (k : Nat) (hk : k ≤ ss.length) (a : Option Addr) (ha0 : a ≠ none) (ha : k < ss.length → a = some ⟨b, o + k * 64, none⟩) : IsSecs W (.slice a (ss.length - k) (c - k)) (ss.drop k) := by
  by_cases h0 : k = ss.length
  · exact .inl ⟨a, c - k, by rw [h0, Nat.sub_self], fun h => absurd h ha0, by rw [h0, List.drop_length]⟩
  · refine .inr ⟨b, o + k * 64, c - k, by rw [ha (by omega), List.length_drop], ?_, by rw [List.length_drop]; omega, by rw [List.length_drop]; omega, ?_⟩
    · intro e; have := congrArg List.length e; rw [List.length_drop, List.length_nil] at this; omega
    · intro i hi j hj
      rw [List.length_drop] at hi
      rw [List.getElem_drop, ← h (k + i) (by omega) j hj]
      congr 2
      omega


theorem slice22 : Try.prog.underlying 22 = some (.slice (Try.prog.elem 22)) := by kernel_rfl
theorem size_elem22 (w : World) : (sizeOf (Try.prog.elem 22)).run Try.prog w = .ok 64 w := by kernel_rfl
theorem run_sl_lo (a : Option Addr) (n c k : Nat) (x : Int) (hx : x = k) (h : k ≤ n) (w : World) : (Instr.sliceAt 22 (.slice a n c) (some (.int .i64 x)) none none).run Try.prog w = .ok (sliced a k n c 64) w := by
  subst hx
  rw [run_sliceAt_slice w 22 _ _ _ _ slice22, run_slice_l w 22 a n c slice22 .i64 k (by omega) (by omega), size_elem22]; rfl
theorem run_sl_hi (a : Option Addr) (n c k : Nat) (x : Int) (hx : x = k) (h : k ≤ c) (w : World) : (Instr.sliceAt 22 (.slice a n c) none (some (.int .i64 x)) none).run Try.prog w = .ok (sliced a 0 k c 64) w := by
  subst hx
  rw [run_sliceAt_slice w 22 _ _ _ _ slice22, run_slice_h w 22 a n c slice22 .i64 k (by omega) (by omega), size_elem22]; rfl
theorem IsSecs.lo {W : World} {b o c : Nat} {ss : List Sec} (h : SecsAt W b o ss) (hm : ss.length ≤ maxLen) (k : Nat) (hk : k ≤ ss.length) (hc : ss.length ≤ c) : IsSecs W (sliced (some ⟨b, o, none⟩) k ss.length c 64) (ss.drop k) :=
  IsSecs.drop h hm hc k hk _ (by split <;> simp) (fun h => by rw [if_neg (by omega), Option.map_some, addr_add])
theorem IsSecs.hi {W : World} {b o c : Nat} {ss : List Sec} (h : SecsAt W b o ss) (hm : ss.length ≤ maxLen) (k : Nat) (hk : k ≤ ss.length) (hc : ss.length ≤ c) : IsSecs W (sliced (some ⟨b, o, none⟩) 0 k c 64) (ss.take k) := by
  unfold sliced
  have e : (if c = 0 then some ⟨b, o, none⟩ else (some ⟨b, o, none⟩ : Option Addr).map (·.add (0 * 64))) = some ⟨b, o, none⟩ := by
    split <;> simp [Addr.add]
  rw [e, Nat.sub_zero, Nat.sub_zero]
  exact IsSecs.take h hm hc k hk

theorem ret_sec2 {fn : Func} {p u : Tmp} {R : Ending → World → Prop} {a : Act} {W0 W : World} {L : List (Nat × Sec)} (h : fn.results = #[.cell p 24, .tmp u]) (b : Nat) (s : Sec) (hp : a.tmps.getD p undef = .pointer (some ⟨b, 0, none⟩)) (hst : St W0 W L) (hm : (b, s) ∈ L)
    (hd : a.defers = []) (v : Value) (hv : a.tmps.getD u undef = v) (hR : R (.returned (.tuple #[secV s, v])) W) : bodyPost Try.prog fn R .ret a W := by
  refine bodyPost_ret (v := .tuple #[secV s, v]) ?_ hd hR
  have hl := run_loadVar_row (P := Try.prog) W b 24 24 (secC s) (0, 0) _ (hst.get hm) Try.underlying24 rfl (by rw [secC_size]; exact info24)
  rw [Array.getD_eq_getD_getElem?] at hp hv
  simp only [results, h, List.mapM_toArray, List.mapM_cons, List.mapM_nil, Array.getD_eq_getD_getElem?, hp, hv]
  simp [Sem.run_bind, asAddr, hl, secV]

set_option maxHeartbeats 400000 in
theorem rebuild_in (b o c : Nat) (ss : List Sec) (k : Nat) (w : World) (hn : ss.length ≤ maxLen) (hc : ss.length ≤ c) (hs : SecsAt w b o ss) (hk : k < ss.length) :
    Calls Try.prog 9 #[.slice (some ⟨b, o, none⟩) ss.length c, .int .i64 k] w fun e w' => e = .returned (.tuple #[secV (sxor (par (ss.take k)) (par (ss.drop (k + 1)))), .int .i64 0]) ∧ Below w.heap.size w w' := by
  have hmax := hn
  unfold maxLen at hn
  have hst := St.start w
  have h0 : ¬ ((k : Int) < 0) := by omega
  have h1 : ¬ ((ss.length : Int) ≤ (k : Int)) := by omega
  go_enter Try.func9, Try.ntmps9
  go_wp2_with (first
    | (with_reducible refine wl_alloc rfl rfl hst ?_; intro b2 W2 hb2 hc2 hbl2 hst2; clear hst; go_frame))
  have hs2 := (hs.step hbl2).step Below.draws
  have hst3 := hst2.step Below.draws
  have hlo := IsSecs.lo hs2 hmax (k + 1) (by omega) hc
  have hhi := IsSecs.hi hs2 hmax k (by omega) hc
  refine Reg.region_ord (S := fun _ => True) [(0, 1), (1, 1), (2, 1), (4, 1), (5, 1), (6, 1), (7, 1), (3, 0), (8, 0), (9, 0), (10, 0), (11, 1)] (by kernel_rfl) (by kernel_rfl) (by decide) (by kernel_rfl) (fun _ _ _ _ _ h => h) ?_
  generalize W2.drew = W3 at *
  clear hst2
  have tr : True := trivial
  repeat (refine Reg.ord_move rfl _ rfl rfl tr ?_; simp only [Act.put, Act.eval, List.setIfInBounds_toArray, List.set_cons_succ, List.set_cons_zero, Array.getD_eq_getD_getElem?, List.getElem?_toArray, List.getElem?_cons_succ, List.getElem?_cons_zero, Option.getD_some])
  refine Reg.ord_val rfl rfl tr _ (fun w' _ => by unfold execOp; simp only [Option.map, Act.put, Act.eval, List.setIfInBounds_toArray, List.set_cons_succ, List.set_cons_zero, Array.getD_eq_getD_getElem?, List.getElem?_toArray, List.getElem?_cons_succ, List.getElem?_cons_zero, Option.getD_some]; exact (Sem.run_bind ..).trans (by rw [run_sl_hi _ _ _ k _ rfl (by omega)]; rfl)) ?_
  simp only [Act.put, Act.eval, List.setIfInBounds_toArray, List.set_cons_succ, List.set_cons_zero, Array.getD_eq_getD_getElem?, List.getElem?_toArray, List.getElem?_cons_succ, List.getElem?_cons_zero, Option.getD_some]
  repeat (refine Reg.ord_move rfl _ rfl rfl tr ?_; simp only [Act.put, Act.eval, List.setIfInBounds_toArray, List.set_cons_succ, List.set_cons_zero, Array.getD_eq_getD_getElem?, List.getElem?_toArray, List.getElem?_cons_succ, List.getElem?_cons_zero, Option.getD_some])
  refine Reg.ord_val rfl rfl tr (.int .i64 ((k : Int) + 1)) (fun w' _ => by go_simp; exact IntWalk.i64_in _ (by omega)) ?_
  simp only [Act.put, Act.eval, List.setIfInBounds_toArray, List.set_cons_succ, List.set_cons_zero, Array.getD_eq_getD_getElem?, List.getElem?_toArray, List.getElem?_cons_succ, List.getElem?_cons_zero, Option.getD_some]
  refine Reg.ord_val rfl rfl tr _ (fun w' _ => by unfold execOp; simp only [Option.map, Act.put, Act.eval, List.setIfInBounds_toArray, List.set_cons_succ, List.set_cons_zero, Array.getD_eq_getD_getElem?, List.getElem?_toArray, List.getElem?_cons_succ, List.getElem?_cons_zero, Option.getD_some]; exact (Sem.run_bind ..).trans (by rw [run_sl_lo _ _ _ (k + 1) _ (by omega) (by omega)]; rfl)) ?_
  simp only [Act.put, Act.eval, List.setIfInBounds_toArray, List.set_cons_succ, List.set_cons_zero, Array.getD_eq_getD_getElem?, List.getElem?_toArray, List.getElem?_cons_succ, List.getElem?_cons_zero, Option.getD_some]
  refine Reg.ord_call rfl rfl 18 _ (by go_simp) (all_any _ _ _ hhi) (fun W4 hb4 => ⟨trivial, ?_⟩)
  simp only [Act.put, Act.eval, List.setIfInBounds_toArray, List.set_cons_succ, List.set_cons_zero, Array.getD_eq_getD_getElem?, List.getElem?_toArray, List.getElem?_cons_succ, List.getElem?_cons_zero, Option.getD_some]
  have hst4 := hst3.step hb4
  clear hst3
  refine Reg.ord_call rfl rfl 18 _ (by go_simp) (all_any _ _ _ (hlo.step hb4)) (fun W5 hb5 => ⟨trivial, ?_⟩)
  simp only [Act.put, Act.eval, List.setIfInBounds_toArray, List.set_cons_succ, List.set_cons_zero, Array.getD_eq_getD_getElem?, List.getElem?_toArray, List.getElem?_cons_succ, List.getElem?_cons_zero, Option.getD_some]
  have hst5 := hst4.step hb5
  clear hst4
  refine Reg.ord_call rfl rfl 13 _ (by go_simp) (xor_any (par (ss.take k)) (par (ss.drop (k + 1))) _) (fun W6 hb6 => ⟨trivial, ?_⟩)
  simp only [Act.put, Act.eval, List.setIfInBounds_toArray, List.set_cons_succ, List.set_cons_zero, Array.getD_eq_getD_getElem?, List.getElem?_toArray, List.getElem?_cons_succ, List.getElem?_cons_zero, Option.getD_some]
  have hst6 := hst5.step hb6
  clear hst5
  refine Reg.ord_step rfl ?_
  refine wl_store rfl _ _ rfl hst6 b2 zeroS (sxor (par (ss.take k)) (par (ss.drop (k + 1)))) rfl rfl (by simp) [] (by simp) ?_
  intro W7 hc7 hbl7 hst7
  refine wpList_nil ⟨trivial, ?_⟩
  simp only [Act.put, Act.eval, List.setIfInBounds_toArray, List.set_cons_succ, List.set_cons_zero, Array.getD_eq_getD_getElem?, List.getElem?_toArray, List.getElem?_cons_succ, List.getElem?_cons_zero, Option.getD_some]
  refine Reg.ord_assign rfl _ rfl rfl trivial ?_
  simp only [Act.put, Act.eval, List.setIfInBounds_toArray, List.set_cons_succ, List.set_cons_zero, Array.getD_eq_getD_getElem?, List.getElem?_toArray, List.getElem?_cons_succ, List.getElem?_cons_zero, Option.getD_some]
  refine Reg.ord_nil ?_
  clear hst6
  go_wp2
  exact ret_sec2 rfl b2 _ rfl hst7 mem0 rfl _ rfl ⟨rfl, hst7.below⟩

/-- What Rebuild hands back. -/
def rebS (ss : List Sec) (i : Int) : Sec := if 0 ≤ i ∧ i < ss.length then sxor (par (ss.take i.toNat)) (par (ss.drop (i.toNat + 1))) else zeroS
def rebE (ss : List Sec) (i : Int) : Int := if 0 ≤ i ∧ i < ss.length then 0 else 3
set_option maxHeartbeats 400000 in
theorem rebuild_out (a : Option Addr) (n c : Nat) (i : Int) (w : World) (h : i < 0 ∨ (n : Int) ≤ i) :
    Calls Try.prog 9 #[.slice a n c, .int .i64 i] w fun e w' => e = .returned (.tuple #[secV zeroS, .int .i64 3]) ∧ Below w.heap.size w w' := by
  have hst := St.start w
  by_cases h0 : i < 0
  · clear h
    go_enter Try.func9, Try.ntmps9
    go_wp2_with (first
      | (with_reducible refine wl_alloc rfl rfl hst ?_; intro b2 W2 hb2 hc2 hbl2 hst2; clear hst; go_frame)
      | (with_reducible refine wl_zero rfl rfl ?_; go_frame)
      | (with_reducible refine wl_store rfl _ _ rfl hst2 b2 zeroS zeroS rfl rfl (by simp) [] (by simp) ?_; intro W3 hc3 hbl3 hst3; clear hst2; go_frame))
    exact ret_sec2 rfl b2 _ rfl hst3 mem0 rfl _ rfl ⟨rfl, hst3.below⟩
  · have h1 : (n : Int) ≤ i := by omega
    clear h
    go_enter Try.func9, Try.ntmps9
    go_wp2_with (first
      | (with_reducible refine wl_alloc rfl rfl hst ?_; intro b2 W2 hb2 hc2 hbl2 hst2; clear hst; go_frame)
      | (with_reducible refine wl_zero rfl rfl ?_; go_frame)
      | (with_reducible refine wl_store rfl _ _ rfl hst2 b2 zeroS zeroS rfl rfl (by simp) [] (by simp) ?_; intro W3 hc3 hbl3 hst3; clear hst2; go_frame))
    exact ret_sec2 rfl b2 _ rfl hst3 mem0 rfl _ rfl ⟨rfl, hst3.below⟩
theorem rebuild_any (v : Value) (ss : List Sec) (i : Int) (w : World) (hs : IsSecs w v ss) :
    Calls Try.prog 9 #[v, .int .i64 i] w fun e w' => e = .returned (.tuple #[secV (rebS ss i), .int .i64 (rebE ss i)]) ∧ Below w.heap.size w w' := by
  rcases hs with ⟨a, c, rfl, _, rfl⟩ | ⟨b, o, c, rfl, hne, hm, hc, hs⟩
  · have e : ¬ (0 ≤ i ∧ i < (([] : List Sec).length : Int)) := by rw [List.length_nil]; omega
    rw [rebS, rebE, if_neg e, if_neg e]
    exact rebuild_out a 0 c i w (by omega)
  · by_cases e : 0 ≤ i ∧ i < (ss.length : Int)
    · rw [rebS, rebE, if_pos e, if_pos e]
      obtain ⟨k, rfl⟩ := Int.eq_ofNat_of_zero_le e.1
      exact rebuild_in b o c ss k w hm hc hs (by omega)
    · rw [rebS, rebE, if_neg e, if_neg e]
      exact rebuild_out _ _ c i w (by omega)

/-! ### The document's own -/
def mix0 (k : Nat) (x y : Sec) : Sec := fun j => if j.val < k then x j ^^^ y j else 0
theorem mix0_all (x y : Sec) : mix0 64 x y = sxor x y := by funext j; simp [mix0, sxor]
theorem mix0_zero (x y : Sec) : mix0 0 x y = zeroS := by funext j; simp [mix0, zeroS]
theorem mix0_succ (k : Nat) (h : k < 64) (x y : Sec) :
    (secC (mix0 k x y)).setIfInBounds k (byteV (x ⟨k, h⟩ ^^^ y ⟨k, h⟩)) = secC (mix0 (k + 1) x y) := by
  apply Array.ext
  · simp [secC]
  · intro i h1 h2
    have h3 : i < 64 := by simpa [secC] using h2
    rw [Array.getElem_setIfInBounds (by simp [secC]; exact h3)]
    by_cases hk : k = i
    · subst hk; simp [secC, mix0]
    · simp [hk, secC, mix0]
      congr 1
      by_cases h4 : i < k
      · rw [if_pos h4, if_pos (by omega)]
      · rw [if_neg h4, if_neg (by omega)]
theorem St.cell {W0 W : World} {L : List (Nat × Sec)} (h : St W0 W L) {b : Nat} {s : Sec} (hm : (b, s) ∈ L) (k : Nat) (hk : k < 64) : W.cell? ⟨b, k, none⟩ = some (.int .u8 (s ⟨k, hk⟩).toNat) := by
  rw [cell_of_row W b k _ _ _ (h.get hm), secC_get _ _ hk]; rfl
set_option maxHeartbeats 1000000 in
theorem rxor_any (x y : Sec) (w : World) :
    Calls Try.prog 14 #[secV x, secV y] w fun e w' => e = .returned (secV (sxor x y)) ∧ Below w.heap.size w w' := by
  have hst := St.start w
  go_enter Try.func14, Try.ntmps14
  go_wp2_with (first
    | (with_reducible refine wl_box rfl _ rfl x rfl hst ?_; intro b2 W2 hb2 hc2 hbl2 hst2; clear hst; go_frame)
    | (with_reducible refine wl_box rfl _ rfl y rfl hst2 ?_; intro b3 W3 hb3 hc3 hbl3 hst3; clear hst2; go_frame)
    | (with_reducible refine wl_alloc rfl rfl hst3 ?_; intro b4 W4 hb4 hc4 hbl4 hst4; clear hst3; go_frame)
    | (with_reducible refine wl_zero rfl rfl ?_; go_frame)
    | (refine wl_new rfl rfl 5 rfl rfl _ rfl hst4 zeroS (by simp [Act.put]) (fun v => by rfl) ?_; intro b5 W5 hb5 hc5 hbl5 hst5; clear hst4; go_frame))
  clear hbl2 hbl3 hbl4 hbl5
  have h25 : b2 ≠ b5 := by omega
  have h35 : b3 ≠ b5 := by omega
  have h45 : b4 ≠ b5 := by omega
  have h24 : b2 ≠ b4 := by omega
  have h34 : b3 ≠ b4 := by omega
  clear hb2 hc2 hb3 hc3 hb4 hc4 hb5 hc5
  go_loopw [6] (fun i wr => ∃ k : Nat, k ≤ 64 ∧ i = .int .i64 k ∧ St w wr [(b5, mix0 k x y), (b4, zeroS), (b3, y), (b2, x)]) (fun i _ => 64 - (intOf i).toNat)
  case atStart => exact ⟨0, by omega, rfl, by rw [mix0_zero]; exact hst5⟩
  case round =>
    obtain ⟨k, hk, rfl, hst⟩ := hrel
    clear hst5
    by_cases hlt : k < 64
    · have c2 := hst.cell (b := b2) (s := x) mem3 k hlt
      have c3 := hst.cell (b := b3) (s := y) mem2 k hlt
      have c5 := hst.cell (b := b5) (s := mix0 k x y) mem0 k hlt
      have f5 : wr.frozen? ⟨b5, k, none⟩ = false := frozen_of_row _ _ _ _ _ (hst.get mem0)
      have HN : Hid (St w (wr.drew.setCell ⟨b5, k, none⟩ (.int .u8 (bits .xor .u8 (x ⟨k, hlt⟩).toNat (y ⟨k, hlt⟩).toNat))) [(b5, mix0 (k + 1) x y), (b4, zeroS), (b3, y), (b2, x)]) := by
        have h1 := hst.step Below.draws
        have h2 := h1.store (b := b5) mem0 (mix0 (k + 1) x y) (L' := [(b4, zeroS), (b3, y), (b2, x)]) (by simp; exact ⟨h45, h35, h25⟩)
        rw [Hid, setCell_eq_setRow _ b5 k _ 24 (0, 0) _ (h1.get mem0), xor_u8]
        rw [show (.int .u8 ((x ⟨k, hlt⟩ ^^^ y ⟨k, hlt⟩).toNat : Int) : Value) = byteV (x ⟨k, hlt⟩ ^^^ y ⟨k, hlt⟩) from rfl, mix0_succ]
        exact h2
      clear hst
      go_wp2
      go_region
      go_wp2
      go_roundw
      case rel => exact ⟨k + 1, by omega, by go_num, HN.out⟩
      case measure => simp [intOf]; omega
    · obtain rfl : k = 64 := by omega
      rw [mix0_all] at hst
      go_wp2_with (first
        | (with_reducible refine wl_load rfl _ rfl hst b5 (sxor x y) rfl (by simp) ?_; go_frame)
        | (with_reducible refine wl_store rfl _ _ rfl hst b4 zeroS (sxor x y) rfl rfl (by simp) [] (by simp) ?_; intro W7 hc7 hbl7 hst7; clear hst; go_frame))
      exact ret_sec rfl b4 (sxor x y) rfl hst7 mem0 rfl ⟨rfl, hst7.below⟩
end Go.Proofs.Ytpmhhfphbackdaa
