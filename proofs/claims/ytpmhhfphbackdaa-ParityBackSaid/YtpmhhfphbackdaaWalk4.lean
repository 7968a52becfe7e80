/- The walks of the document's own Build, Plug, Rebuild. -/
import Derived.Test.YtpmhhfphbackdaaWalk3
namespace Go.Proofs.Ytpmhhfphbackdaa
open Go.RowKit
set_option linter.unusedSimpArgs false

theorem SecsAt.load {W : World} {b ofs : Nat} {ss : List Sec} (h : SecsAt W b ofs ss) (i : Nat) (hi : i < ss.length) {ρ : Operand → Value} {o : Oper} (x : Operand) (ho : o.op = .load 24 x) (hx : ρ x = .pointer (some ⟨b, ofs + i * 64, none⟩)) :
    (execOp ρ o).run Try.prog W = .ok (.value (secV ss[i])) W := by
  unfold execOp
  simp only [ho, hx, Instr.loadAt, Instr.sureAddr, Sem.run_bind, Sem.run_pure, Result.andThen_ok, run_loadVar_secs h i hi]
theorem St.load {W0 W : World} {L : List (Nat × Sec)} (h : St W0 W L) {b : Nat} {s : Sec} (hm : (b, s) ∈ L) {ρ : Operand → Value} {o : Oper} (x : Operand) (ho : o.op = .load 24 x) (hx : ρ x = .pointer (some ⟨b, 0, none⟩)) :
    (execOp ρ o).run Try.prog W = .ok (.value (secV s)) W := by
  have hl := run_loadVar_row (P := Try.prog) W b 24 24 (secC s) (0, 0) _ (h.get hm) Try.underlying24 rfl (by rw [secC_size]; exact info24)
  unfold execOp
  simp only [ho, hx, Instr.loadAt, Instr.sureAddr, Sem.run_bind, Sem.run_pure, Result.andThen_ok, hl, secV]

set_option maxHeartbeats 1000000 in
theorem rbuild_some (b o c : Nat) (ss : List Sec) (w : World) (hn : ss.length ≤ maxLen) (hs : SecsAt w b o ss) :
    Calls Try.prog 12 #[.slice (some ⟨b, o, none⟩) ss.length c] w fun e w' => e = .returned (secV (par ss)) ∧ Below w.heap.size w w' := by
  unfold maxLen at hn
  have hst := St.start w
  go_enter Try.func12, Try.ntmps12
  go_wp2_with (first
    | (with_reducible refine wl_alloc rfl rfl hst ?_; intro b2 W2 hb2 hc2 hbl2 hst2; clear hst; go_frame)
    | (with_reducible refine wl_zero rfl rfl ?_; go_frame)
    | (refine wl_new rfl rfl 3 rfl rfl _ rfl hst2 zeroS (by simp [Act.put]) (fun v => by rfl) ?_; intro b3 W3 hb3 hc3 hbl3 hst3; clear hst2; go_frame))
  have h23 : b2 ≠ b3 := by omega
  clear hb2 hc2 hbl2 hb3 hc3 hbl3
  go_loopw [4] (fun i wr => ∃ k : Nat, k ≤ ss.length ∧ i = .int .i64 k ∧ St w wr [(b3, par (ss.take k)), (b2, zeroS)]) (fun i _ => ss.length - (intOf i).toNat)
  case atStart => exact ⟨0, by omega, rfl, hst3⟩
  case round =>
    obtain ⟨k, hk, rfl, hst⟩ := hrel
    clear hst3
    by_cases hlt : k < ss.length
    · go_wp2_with fail
      refine Reg.region_ord (S := fun _ => True) [(1, 1), (2, 1), (3, 1), (0, 4 + 2), (5, 0), (6, 0)] (by kernel_rfl) (by kernel_rfl) (by decide) (by kernel_rfl) (fun _ _ _ _ _ h => h) ?_
      have hst1 := hst.step Below.draws
      have hsw := (hs.step hst.below).step Below.draws
      clear hst
      generalize wr.drew = W1 at *
      repeat (refine Reg.ord_move rfl _ rfl rfl trivial ?_; simp only [Act.put, Act.eval, List.setIfInBounds_toArray, List.set_cons_succ, List.set_cons_zero, Array.getD_eq_getD_getElem?, List.getElem?_toArray, List.getElem?_cons_succ, List.getElem?_cons_zero, Option.getD_some])
      refine Reg.ord_val rfl rfl trivial (.pointer (some ⟨b, o + k * 64, none⟩)) (fun w' _ => by go_simp) ?_
      simp only [Act.put, Act.eval, List.setIfInBounds_toArray, List.set_cons_succ, List.set_cons_zero, Array.getD_eq_getD_getElem?, List.getElem?_toArray, List.getElem?_cons_succ, List.getElem?_cons_zero, Option.getD_some]
      refine Reg.ord_pair rfl rfl rfl rfl trivial _ _ (hst1.load mem0 _ rfl rfl) (hsw.load k hlt _ rfl rfl) ?_
      simp only [Act.put, Act.eval, List.setIfInBounds_toArray, List.set_cons_succ, List.set_cons_zero, Array.getD_eq_getD_getElem?, List.getElem?_toArray, List.getElem?_cons_succ, List.getElem?_cons_zero, Option.getD_some]
      refine Reg.ord_call rfl rfl 14 _ (by go_simp) (rxor_any (par (ss.take k)) ss[k] _) (fun W4 hb4 => ⟨trivial, ?_⟩)
      simp only [Act.put, Act.eval, List.setIfInBounds_toArray, List.set_cons_succ, List.set_cons_zero, Array.getD_eq_getD_getElem?, List.getElem?_toArray, List.getElem?_cons_succ, List.getElem?_cons_zero, Option.getD_some]
      have hst4 := hst1.step hb4
      clear hst1
      refine Reg.ord_step rfl ?_
      refine wl_store rfl _ _ rfl hst4 b3 _ (sxor (par (ss.take k)) ss[k]) rfl rfl mem0 [(b2, zeroS)] (by simp; omega) ?_
      intro W5 hc5 hbl5 hst5
      refine wpList_nil ⟨trivial, ?_⟩
      simp only [Act.put, Act.eval, List.setIfInBounds_toArray, List.set_cons_succ, List.set_cons_zero, Array.getD_eq_getD_getElem?, List.getElem?_toArray, List.getElem?_cons_succ, List.getElem?_cons_zero, Option.getD_some]
      refine Reg.ord_nil ?_
      rw [← par_take ss k hlt] at hst5
      clear hst4
      go_wp2
      go_roundw
      case rel => exact ⟨k + 1, by omega, by go_num, hst5⟩
      case measure => simp [intOf]; omega
    · obtain rfl : k = ss.length := by omega
      rw [List.take_length] at hst
      go_wp2_with (first
        | (with_reducible refine wl_load rfl _ rfl hst b3 (par ss) rfl (by simp) ?_; go_frame)
        | (with_reducible refine wl_store rfl _ _ rfl hst b2 zeroS (par ss) rfl rfl (by simp) [] (by simp) ?_; intro W7 hc7 hbl7 hst7; clear hst; go_frame))
      exact ret_sec rfl b2 (par ss) rfl hst7 mem0 rfl ⟨rfl, hst7.below⟩

theorem rbuild_any (v : Value) (ss : List Sec) (w : World) (hs : IsSecs w v ss) :
    Calls Try.prog 12 #[v] w fun e w' => e = .returned (secV (par ss)) ∧ Below w.heap.size w w' := by
  rcases hs with ⟨a, c, rfl, _, rfl⟩ | ⟨b, o, c, rfl, hne, hm, _, hs⟩
  · have hst := St.start w
    go_enter Try.func12, Try.ntmps12
    go_wp2_with (first
      | (with_reducible refine wl_alloc rfl rfl hst ?_; intro b2 W2 hb2 hc2 hbl2 hst2; clear hst; go_frame)
      | (with_reducible refine wl_zero rfl rfl ?_; go_frame)
      | (refine wl_new rfl rfl 3 rfl rfl _ rfl hst2 zeroS (by simp [Act.put]) (fun v => by rfl) ?_; intro b3 W3 hb3 hc3 hbl3 hst3; clear hst2; go_frame))
    have h23 : b2 ≠ b3 := by omega
    clear hb2 hc2 hbl2 hb3 hc3 hbl3
    refine wp_loop_rounds 1 ?_
    rw [rounds_succ]
    go_wp2_with (first
        | (with_reducible refine wl_load rfl _ rfl hst3 b3 zeroS rfl (by simp) ?_; go_frame)
        | (with_reducible refine wl_store rfl _ _ rfl hst3 b2 zeroS zeroS rfl rfl (by simp) [] (by simp) ?_; intro W7 hc7 hbl7 hst7; clear hst3; go_frame))
    exact ret_sec rfl b2 zeroS rfl hst7 mem0 rfl ⟨rfl, hst7.below⟩
  · exact rbuild_some b o c ss w hm hs

set_option maxHeartbeats 400000 in
theorem rplug_any (x y z : Sec) (w : World) :
    Calls Try.prog 16 #[secV x, secV y, secV z] w fun e w' => e = .returned (secV (sxor (sxor x y) z)) ∧ Below w.heap.size w w' := by
  have hst := St.start w
  go_enter Try.func16, Try.ntmps16
  go_wp2_with (first
    | (with_reducible refine wl_box rfl _ rfl x rfl hst ?_; intro b2 W2 hb2 hc2 hbl2 hst2; clear hst; go_frame)
    | (with_reducible refine wl_box rfl _ rfl y rfl hst2 ?_; intro b3 W3 hb3 hc3 hbl3 hst3; clear hst2; go_frame)
    | (with_reducible refine wl_box rfl _ rfl z rfl hst3 ?_; intro b4 W4 hb4 hc4 hbl4 hst4; clear hst3; go_frame)
    | (with_reducible refine wl_alloc rfl rfl hst4 ?_; intro b5 W5 hb5 hc5 hbl5 hst5; clear hst4; go_frame))
  have hd := hst5.step Below.draws
  clear hst5
  have hlt : ∀ p ∈ [(b4, z), (b3, y), (b2, x)], p.1 ≠ b5 ∧ p ∈ [(b5, zeroS), (b4, z), (b3, y), (b2, x)] := by
    simp
    omega
  have hsub : ∀ p ∈ [(b4, z), (b3, y), (b2, x)], p ∈ [(b5, zeroS), (b4, z), (b3, y), (b2, x)] := fun p hp => (hlt p hp).2
  refine Reg.region_ord (S := fun w' => St w w' [(b4, z), (b3, y), (b2, x)]) [(0, 1), (1, 1), (3, 1), (2, 0), (4, 0), (5, 0)] (by kernel_rfl) (by kernel_rfl) (by decide) (by kernel_rfl) (fun _ _ _ _ _ h => h) ?_
  generalize W5.drew = W6 at *
  refine Reg.ord_val rfl rfl (hd.only hsub) _ (fun w' hS => hS.load mem2 _ rfl rfl) ?_
  simp only [Act.put, Act.eval, List.setIfInBounds_toArray, List.set_cons_succ, List.set_cons_zero, Array.getD_eq_getD_getElem?, List.getElem?_toArray, List.getElem?_cons_succ, List.getElem?_cons_zero, Option.getD_some]
  refine Reg.ord_val rfl rfl (hd.only hsub) _ (fun w' hS => hS.load mem1 _ rfl rfl) ?_
  simp only [Act.put, Act.eval, List.setIfInBounds_toArray, List.set_cons_succ, List.set_cons_zero, Array.getD_eq_getD_getElem?, List.getElem?_toArray, List.getElem?_cons_succ, List.getElem?_cons_zero, Option.getD_some]
  refine Reg.ord_val rfl rfl (hd.only hsub) _ (fun w' hS => hS.load mem0 _ rfl rfl) ?_
  simp only [Act.put, Act.eval, List.setIfInBounds_toArray, List.set_cons_succ, List.set_cons_zero, Array.getD_eq_getD_getElem?, List.getElem?_toArray, List.getElem?_cons_succ, List.getElem?_cons_zero, Option.getD_some]
  refine Reg.ord_call rfl rfl 14 _ (by go_simp) (rxor_any x y _) (fun W7 hb7 => ⟨(hd.only hsub).step hb7, ?_⟩)
  simp only [Act.put, Act.eval, List.setIfInBounds_toArray, List.set_cons_succ, List.set_cons_zero, Array.getD_eq_getD_getElem?, List.getElem?_toArray, List.getElem?_cons_succ, List.getElem?_cons_zero, Option.getD_some]
  have hd7 := hd.step hb7
  clear hd
  refine Reg.ord_call rfl rfl 14 _ (by go_simp) (rxor_any (sxor x y) z _) (fun W8 hb8 => ⟨(hd7.only hsub).step hb8, ?_⟩)
  simp only [Act.put, Act.eval, List.setIfInBounds_toArray, List.set_cons_succ, List.set_cons_zero, Array.getD_eq_getD_getElem?, List.getElem?_toArray, List.getElem?_cons_succ, List.getElem?_cons_zero, Option.getD_some]
  have hd8 := hd7.step hb8
  clear hd7
  refine Reg.ord_step rfl ?_
  refine wl_store rfl _ _ rfl hd8 b5 _ (sxor (sxor x y) z) rfl rfl mem0 [(b4, z), (b3, y), (b2, x)] hlt ?_
  intro W9 hc9 hbl9 hd9
  refine wpList_nil ⟨hd9.only (fun p hp => List.mem_cons_of_mem _ hp), ?_⟩
  simp only [Act.put, Act.eval, List.setIfInBounds_toArray, List.set_cons_succ, List.set_cons_zero, Array.getD_eq_getD_getElem?, List.getElem?_toArray, List.getElem?_cons_succ, List.getElem?_cons_zero, Option.getD_some]
  refine Reg.ord_nil ?_
  clear hd8
  go_wp2
  exact ret_sec rfl b5 _ rfl hd9 mem0 rfl ⟨rfl, hd9.below⟩

/-! Rebuild, by definition. -/
theorem sxor_comm (x y : Sec) : sxor x y = sxor y x := by funext j; exact UInt8.xor_comm _ _
theorem sxor_assoc (x y z : Sec) : sxor (sxor x y) z = sxor x (sxor y z) := by funext j; exact UInt8.xor_assoc _ _ _
theorem sxor_self (x : Sec) : sxor x x = zeroS := by funext j; exact UInt8.xor_self
theorem sxor_zero (x : Sec) : sxor x zeroS = x := by funext j; exact UInt8.xor_zero
theorem zero_sxor (x : Sec) : sxor zeroS x = x := by funext j; exact UInt8.zero_xor
theorem parFrom_eq : ∀ (l : List Sec) (s : Sec), parFrom s l = sxor s (par l)
  | [], s => by simp [parFrom, par, sxor_zero]
  | x :: l, s => by
    have h1 : parFrom s (x :: l) = parFrom (sxor s x) l := rfl
    have h2 : par (x :: l) = parFrom (sxor zeroS x) l := rfl
    rw [h1, h2, parFrom_eq l, parFrom_eq l, zero_sxor, sxor_assoc]
theorem par_append (l m : List Sec) : par (l ++ m) = sxor (par l) (par m) := by
  rw [← parFrom_eq]; simp [par, parFrom]
theorem par_erase (l : List Sec) (i : Nat) : par (l.eraseIdx i) = sxor (par (l.take i)) (par (l.drop (i + 1))) := by
  rw [List.eraseIdx_eq_take_drop_succ, par_append]
theorem erase_ne (ss : List Sec) (i k : Nat) (hk : k < ss.length) (hne : k ≠ i) : (ss.take (k + 1)).eraseIdx i = (ss.take k).eraseIdx i ++ [ss[k]] := by
  have hl : (ss.take k).length = k := by rw [List.length_take]; omega
  rw [List.take_succ_eq_append_getElem hk]
  by_cases h : i < k
  · rw [List.eraseIdx_append_of_lt_length (by rw [hl]; exact h)]
  · rw [List.eraseIdx_append_of_length_le (by rw [hl]; omega), hl, List.eraseIdx_of_length_le (l := ss.take k) (by rw [hl]; omega)]
    obtain ⟨n, hn⟩ : ∃ n, i - k = n + 1 := ⟨i - k - 1, by omega⟩
    rw [hn]; rfl
theorem erase_eq (ss : List Sec) (i : Nat) (hk : i < ss.length) : (ss.take (i + 1)).eraseIdx i = (ss.take i).eraseIdx i := by
  have hl : (ss.take i).length = i := by rw [List.length_take]; omega
  rw [List.take_succ_eq_append_getElem hk, List.eraseIdx_append_of_length_le (by omega), hl, Nat.sub_self, List.eraseIdx_of_length_le (l := ss.take i) (by omega)]
  simp
def lackAt (ss : List Sec) (i k : Nat) : Sec := par ((ss.take k).eraseIdx i)
theorem lack_zero (ss : List Sec) (i : Nat) : lackAt ss i 0 = zeroS := by simp [lackAt, par, parFrom]
theorem lack_ne (ss : List Sec) (i k : Nat) (hk : k < ss.length) (hne : k ≠ i) : lackAt ss i (k + 1) = sxor (lackAt ss i k) ss[k] := by
  rw [lackAt, erase_ne ss i k hk hne, par_snoc]; rfl
theorem lack_eq (ss : List Sec) (i : Nat) (hk : i < ss.length) : lackAt ss i (i + 1) = lackAt ss i i := by rw [lackAt, erase_eq ss i hk]; rfl
theorem lack_all (ss : List Sec) (i : Nat) : lackAt ss i ss.length = sxor (par (ss.take i)) (par (ss.drop (i + 1))) := by rw [lackAt, List.take_length, par_erase]

set_option maxHeartbeats 1000000 in
theorem rrebuild_in (b o c : Nat) (ss : List Sec) (n : Nat) (w : World) (hn : ss.length ≤ maxLen) (hs : SecsAt w b o ss) (hnl : n < ss.length) :
    Calls Try.prog 10 #[.slice (some ⟨b, o, none⟩) ss.length c, .int .i64 n] w fun e w' => e = .returned (.tuple #[secV (sxor (par (ss.take n)) (par (ss.drop (n + 1)))), .int .i64 0]) ∧ Below w.heap.size w w' := by
  unfold maxLen at hn
  have hst := St.start w
  have h0 : ¬ ((n : Int) < 0) := by omega
  have h1 : ¬ ((ss.length : Int) ≤ (n : Int)) := by omega
  go_enter Try.func10, Try.ntmps10
  go_wp2_with (first
    | (with_reducible refine wl_alloc rfl rfl hst ?_; intro b2 W2 hb2 hc2 hbl2 hst2; clear hst; go_frame)
    | (with_reducible refine wl_zero rfl rfl ?_; go_frame)
    | (refine wl_new rfl rfl 6 rfl rfl _ rfl hst2 zeroS (by simp [Act.put]) (fun v => by rfl) ?_; intro b3 W3 hb3 hc3 hbl3 hst3; clear hst2; go_frame))
  have h23 : b2 ≠ b3 := by omega
  clear hb2 hc2 hbl2 hb3 hc3 hbl3
  go_loopw [7] (fun i wr => ∃ k : Nat, k ≤ ss.length ∧ i = .int .i64 k ∧ St w wr [(b3, lackAt ss n k), (b2, zeroS)]) (fun i _ => ss.length - (intOf i).toNat)
  case atStart => exact ⟨0, by omega, rfl, by rw [lack_zero]; exact hst3⟩
  case round =>
    obtain ⟨k, hk, rfl, hst⟩ := hrel
    clear hst3
    by_cases hlt : k < ss.length
    · by_cases hkn : k = n
      · subst hkn
        rw [← lack_eq ss k hlt] at hst
        go_wp2
        go_roundw
        case rel => exact ⟨k + 1, by omega, by go_num, hst⟩
        case measure => simp [intOf]; omega
      · have hb : ((k : Int) != (n : Int)) = true := by rw [bne_iff_ne]; omega
        have hkn' : ¬ ((k : Int) = (n : Int)) := by omega
        have HK := Lib.hid hkn
        clear hkn
        go_wp2_with fail
        refine Reg.region_ord (S := fun _ => True) [(1, 1), (2, 1), (3, 1), (0, 4 + 2), (5, 0), (6, 0)] (by kernel_rfl) (by kernel_rfl) (by decide) (by kernel_rfl) (fun _ _ _ _ _ h => h) ?_
        have hst1 := hst.step Below.draws
        have hsw := (hs.step hst.below).step Below.draws
        clear hst
        generalize wr.drew = W1 at *
        repeat (refine Reg.ord_move rfl _ rfl rfl trivial ?_; simp only [Act.put, Act.eval, List.setIfInBounds_toArray, List.set_cons_succ, List.set_cons_zero, Array.getD_eq_getD_getElem?, List.getElem?_toArray, List.getElem?_cons_succ, List.getElem?_cons_zero, Option.getD_some])
        refine Reg.ord_val rfl rfl trivial (.pointer (some ⟨b, o + k * 64, none⟩)) (fun w' _ => by go_simp) ?_
        simp only [Act.put, Act.eval, List.setIfInBounds_toArray, List.set_cons_succ, List.set_cons_zero, Array.getD_eq_getD_getElem?, List.getElem?_toArray, List.getElem?_cons_succ, List.getElem?_cons_zero, Option.getD_some]
        refine Reg.ord_pair rfl rfl rfl rfl trivial _ _ (hst1.load mem0 _ rfl rfl) (hsw.load k hlt _ rfl rfl) ?_
        simp only [Act.put, Act.eval, List.setIfInBounds_toArray, List.set_cons_succ, List.set_cons_zero, Array.getD_eq_getD_getElem?, List.getElem?_toArray, List.getElem?_cons_succ, List.getElem?_cons_zero, Option.getD_some]
        refine Reg.ord_call rfl rfl 14 _ (by go_simp) (rxor_any (lackAt ss n k) ss[k] _) (fun W4 hb4 => ⟨trivial, ?_⟩)
        simp only [Act.put, Act.eval, List.setIfInBounds_toArray, List.set_cons_succ, List.set_cons_zero, Array.getD_eq_getD_getElem?, List.getElem?_toArray, List.getElem?_cons_succ, List.getElem?_cons_zero, Option.getD_some]
        have hst4 := hst1.step hb4
        clear hst1
        refine Reg.ord_step rfl ?_
        refine wl_store rfl _ _ rfl hst4 b3 _ (sxor (lackAt ss n k) ss[k]) rfl rfl mem0 [(b2, zeroS)] (by simp; omega) ?_
        intro W5 hc5 hbl5 hst5
        refine wpList_nil ⟨trivial, ?_⟩
        simp only [Act.put, Act.eval, List.setIfInBounds_toArray, List.set_cons_succ, List.set_cons_zero, Array.getD_eq_getD_getElem?, List.getElem?_toArray, List.getElem?_cons_succ, List.getElem?_cons_zero, Option.getD_some]
        refine Reg.ord_nil ?_
        rw [← lack_ne ss n k hlt HK.out] at hst5
        clear hst4
        go_wp2
        go_roundw
        case rel => exact ⟨k + 1, by omega, by go_num, hst5⟩
        case measure => simp [intOf]; omega
    · obtain rfl : k = ss.length := by omega
      rw [lack_all] at hst
      go_wp2_with (first
        | (with_reducible refine wl_load rfl _ rfl hst b3 _ rfl mem0 ?_; go_frame)
        | (with_reducible refine wl_store rfl _ _ rfl hst b2 zeroS _ rfl rfl (by simp) [] (by simp) ?_; intro W7 hc7 hbl7 hst7; clear hst; go_frame))
      exact ret_sec2 rfl b2 _ rfl hst7 mem0 rfl _ rfl ⟨rfl, hst7.below⟩

set_option maxHeartbeats 400000 in
theorem rrebuild_out (a : Option Addr) (n c : Nat) (i : Int) (w : World) (h : i < 0 ∨ (n : Int) ≤ i) :
    Calls Try.prog 10 #[.slice a n c, .int .i64 i] w fun e w' => e = .returned (.tuple #[secV zeroS, .int .i64 3]) ∧ Below w.heap.size w w' := by
  have hst := St.start w
  by_cases h0 : i < 0
  · clear h
    go_enter Try.func10, Try.ntmps10
    go_wp2_with (first
      | (with_reducible refine wl_alloc rfl rfl hst ?_; intro b2 W2 hb2 hc2 hbl2 hst2; clear hst; go_frame)
      | (with_reducible refine wl_zero rfl rfl ?_; go_frame)
      | (with_reducible refine wl_store rfl _ _ rfl hst2 b2 zeroS zeroS rfl rfl (by simp) [] (by simp) ?_; intro W3 hc3 hbl3 hst3; clear hst2; go_frame))
    exact ret_sec2 rfl b2 _ rfl hst3 mem0 rfl _ rfl ⟨rfl, hst3.below⟩
  · have h1 : (n : Int) ≤ i := by omega
    clear h
    go_enter Try.func10, Try.ntmps10
    go_wp2_with (first
      | (with_reducible refine wl_alloc rfl rfl hst ?_; intro b2 W2 hb2 hc2 hbl2 hst2; clear hst; go_frame)
      | (with_reducible refine wl_zero rfl rfl ?_; go_frame)
      | (with_reducible refine wl_store rfl _ _ rfl hst2 b2 zeroS zeroS rfl rfl (by simp) [] (by simp) ?_; intro W3 hc3 hbl3 hst3; clear hst2; go_frame))
    exact ret_sec2 rfl b2 _ rfl hst3 mem0 rfl _ rfl ⟨rfl, hst3.below⟩
theorem rrebuild_any (v : Value) (ss : List Sec) (i : Int) (w : World) (hs : IsSecs w v ss) :
    Calls Try.prog 10 #[v, .int .i64 i] w fun e w' => e = .returned (.tuple #[secV (rebS ss i), .int .i64 (rebE ss i)]) ∧ Below w.heap.size w w' := by
  rcases hs with ⟨a, c, rfl, _, rfl⟩ | ⟨b, o, c, rfl, hne, hm, hc, hs⟩
  · have e : ¬ (0 ≤ i ∧ i < (([] : List Sec).length : Int)) := by rw [List.length_nil]; omega
    rw [rebS, rebE, if_neg e, if_neg e]
    exact rrebuild_out a 0 c i w (by omega)
  · by_cases e : 0 ≤ i ∧ i < (ss.length : Int)
    · rw [rebS, rebE, if_pos e, if_pos e]
      obtain ⟨k, rfl⟩ := Int.eq_ofNat_of_zero_le e.1
      exact rrebuild_in b o c ss k w hm hs (by omega)
    · rw [rebS, rebE, if_neg e, if_neg e]
      exact rrebuild_out _ _ c i w (by omega)
end Go.Proofs.Ytpmhhfphbackdaa
