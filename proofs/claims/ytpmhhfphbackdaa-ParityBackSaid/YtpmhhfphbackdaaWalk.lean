/- The walks of package parity: fold, all, Build, Xor, Plug, Check. -/
import Derived.Test.YtpmhhfphbackdaaSteps
namespace Go.Proofs.Ytpmhhfphbackdaa
open Go.RowKit

set_option maxHeartbeats 400000 in
theorem fold_any (b1 b2 : Nat) (t1 t2 : TypeId) (x y : Sec) (w : World) (h1 : w.heap[b1]? = some (.cells (secC x) t1)) (h2 : w.heap[b2]? = some (.cells (secC y) t2)) (hne : b1 ≠ b2) :
    Calls Try.prog 19 #[.slice (some ⟨b1, 0, none⟩) 64 64, .slice (some ⟨b2, 0, none⟩) 64 64] w fun e w' => e = .returned (.tuple #[]) ∧ w' = w.setRow b1 (secC (sxor x y)) := by
  have H1 := Lib.hid h1
  have H2 := Lib.hid h2
  clear h1 h2
  go_enter Try.func19, Try.ntmps19
  go_wp2
  go_loopw [4, 5, 8] (fun _ _ i wr => ∃ k : Nat, k ≤ 64 ∧ i = .int .i64 k ∧ wr = w.setRow b1 (secC (mix k x y))) (fun _ _ i _ => 64 - (intOf i).toNat)
  case atStart => exact ⟨0, by omega, rfl, by rw [mix_zero, setRow_self w b1 _ _ _ H1.out]⟩
  case round =>
    obtain ⟨k, hk, rfl, rfl⟩ := hrel
    by_cases hlt : k < 64
    · have c1 : (w.setRow b1 (secC (mix k x y))).cell? ⟨b1, k, none⟩ = some (.int .u8 (x ⟨k, hlt⟩).toNat) := by
        rw [cell_setRow_same w b1 k _ _ _ _ H1.out, secC_get _ _ hlt, mix_at]; rfl
      have c2 : (w.setRow b1 (secC (mix k x y))).cell? ⟨b2, k, none⟩ = some (.int .u8 (y ⟨k, hlt⟩).toNat) := by
        rw [cell_setRow_other _ _ _ _ (fun e => hne e.symm), cell_of_row w b2 k _ _ _ H2.out, secC_get _ _ hlt]; rfl
      have f1 : (w.setRow b1 (secC (mix k x y))).frozen? ⟨b1, k, none⟩ = false := by
        exact frozen_of_row _ _ _ _ _ (setRow_heap w b1 _ _ _ _ H1.out)
      have HS : Hid ((w.setRow b1 (secC (mix k x y))).setCell ⟨b1, k, none⟩ (.int .u8 (bits .xor .u8 (x ⟨k, hlt⟩).toNat (y ⟨k, hlt⟩).toNat)) = w.setRow b1 (secC (mix (k + 1) x y))) := by
        rw [Hid, setCell_eq_setRow _ b1 k _ t1 (0, 0) _ (setRow_heap w b1 _ _ _ _ H1.out), setRow_setRow, xor_u8, ← mix_succ k hlt]; rfl
      generalize w.setRow b1 (secC (mix k x y)) = W at *
      go_wp2
      go_roundw
      case rel => exact ⟨k + 1, by omega, by go_num, HS.out⟩
      case measure => simp [intOf]; omega
    · obtain rfl : k = 64 := by omega
      rw [mix_all]
      go_wp2
      go_end0
      exact ⟨rfl, rfl⟩

set_option maxHeartbeats 400000 in
theorem all_some (b o c : Nat) (ss : List Sec) (w : World) (hn : ss.length ≤ maxLen) (hs : SecsAt w b o ss) :
    Calls Try.prog 18 #[.slice (some ⟨b, o, none⟩) ss.length c] w fun e w' => e = .returned (secV (par ss)) ∧ Below w.heap.size w w' := by
  unfold maxLen at hn
  have hst := St.start w
  go_enter Try.func18, Try.ntmps18
  go_wp2_with (first
    | (refine wl_alloc rfl rfl hst ?_; intro b2 W2 hb2 hc2 hbl2 hst2; clear hst)
    | (refine wl_alloc rfl rfl hst2 ?_; intro b3 W3 hb3 hc3 hbl3 hst3; clear hst2))
  have h23 : b2 < b3 := by omega
  clear hc3 hbl2 hbl3 hb2 hb3 hc2
  go_loopw [8] (fun i wr => ∃ k : Nat, k ≤ ss.length ∧ i = .int .i64 k ∧ St w wr [(b3, par (ss.take k)), (b2, zeroS)]) (fun i _ => ss.length - (intOf i).toNat)
  case atStart => exact ⟨0, by omega, rfl, hst3⟩
  case round =>
    obtain ⟨k, hk, rfl, hst⟩ := hrel
    clear hst3
    have hsw := hs.step hst.below
    have h3 := hst.lt (b := b3) (s := par (ss.take k)) (by simp)
    by_cases hlt : k < ss.length
    · go_wp2_with (first
        | (with_reducible refine wl_load_at rfl _ rfl hsw k hlt rfl ?_)
        | (refine wl_new rfl rfl 5 rfl rfl _ rfl hst ss[k] (by simp [Act.put]) (fun v => by rfl) ?_; intro b5 W5 hb5 hc5 hbl5 hst5; clear hst hsw))
      have h35 : b3 < b5 := by omega
      have hg3 := hst5.get (b := b3) (s := par (ss.take k)) (by simp)
      have hg5 := hst5.get (b := b5) (s := ss[k]) (by simp)
      have HG3 := Lib.hid hg3
      have HG5 := Lib.hid hg5
      clear hg3 hg5
      go_region_with (go_at_call 19; refine (fold_any b3 b5 24 24 (par (ss.take k)) ss[k] _ (by exact HG3.out) (by exact HG5.out) (by omega)).mono ?_; rintro e w' ⟨rfl, rfl⟩)
      have hst6 := (hst5.step Below.draws).store (b := b3) (s0 := par (ss.take k)) (by simp) (par (ss.take (k + 1))) (L' := [(b2, zeroS)]) (by simp; omega)
      rw [← par_take ss k hlt]
      generalize W5.drew.setRow b3 (secC (par (ss.take (k + 1)))) = W6 at *
      clear hst5 HG3 HG5 hbl5
      go_wp2
      go_roundw
      case rel => exact ⟨k + 1, by omega, by go_num, hst6⟩
      case measure => simp [intOf]; omega
    · obtain rfl : k = ss.length := by omega
      rw [List.take_length] at hst
      go_wp2_with (first
        | (with_reducible refine wl_load rfl _ rfl hst b3 (par ss) rfl (by simp) ?_)
        | (with_reducible refine wl_store rfl _ _ rfl hst b2 zeroS (par ss) rfl rfl (by simp) [] (by simp) ?_; intro W7 hc7 hbl7 hst7; clear hst))
      refine bodyPost_ret (v := secV (par ss)) (results_cell_row rfl _ _ b2 24 (secC (par ss)) (0, 0) _ rfl (hst7.get (by simp)) Try.underlying24 rfl (by rw [secC_size]; exact info24)) rfl ⟨rfl, hst7.below⟩

theorem all_any (v : Value) (ss : List Sec) (w : World) (hs : IsSecs w v ss) :
    Calls Try.prog 18 #[v] w fun e w' => e = .returned (secV (par ss)) ∧ Below w.heap.size w w' := by
  rcases hs with ⟨a, c, rfl, _, rfl⟩ | ⟨b, o, c, rfl, hne, hm, _, hs⟩
  · have hst := St.start w
    go_enter Try.func18, Try.ntmps18
    go_wp2_with (first
      | (refine wl_alloc rfl rfl hst ?_; intro b2 W2 hb2 hc2 hbl2 hst2; clear hst)
      | (refine wl_alloc rfl rfl hst2 ?_; intro b3 W3 hb3 hc3 hbl3 hst3; clear hst2))
    have h23 : b2 < b3 := by omega
    clear hc3 hbl2 hbl3 hb2 hb3 hc2
    refine wp_loop_rounds 1 ?_
    rw [rounds_succ]
    go_wp2_with (first
        | (with_reducible refine wl_load rfl _ rfl hst3 b3 zeroS rfl (by simp) ?_)
        | (with_reducible refine wl_store rfl _ _ rfl hst3 b2 zeroS zeroS rfl rfl (by simp) [] (by simp) ?_; intro W7 hc7 hbl7 hst7; clear hst3))
    refine bodyPost_ret (v := secV zeroS) (results_cell_row rfl _ _ b2 24 (secC zeroS) (0, 0) _ rfl (hst7.get (by simp)) Try.underlying24 rfl (by rw [secC_size]; exact info24)) rfl ⟨rfl, hst7.below⟩
  · exact all_some b o c ss w hm hs


set_option maxHeartbeats 400000 in
theorem build_any (v : Value) (ss : List Sec) (w : World) (hs : IsSecs w v ss) :
    Calls Try.prog 11 #[v] w fun e w' => e = .returned (secV (par ss)) ∧ Below w.heap.size w w' := by
  have hst := St.start w
  go_enter Try.func11, Try.ntmps11
  go_wp2_with (first
    | (with_reducible refine wl_alloc rfl rfl hst ?_; intro b2 W2 hb2 hc2 hbl2 hst2; clear hst)
    | (go_at_call 18; refine (all_any _ _ _ (hs.step hbl2)).mono ?_; rintro e W3 ⟨rfl, hbl3⟩; have hst3 := hst2.step hbl3; clear hst2)
    | (with_reducible refine wl_store rfl _ _ rfl hst3 b2 zeroS (par ss) rfl rfl (by simp) [] (by simp) ?_; intro W4 hc4 hbl4 hst4; clear hst3))
  exact ret_sec rfl b2 (par ss) rfl hst4 (by simp) rfl ⟨rfl, hst4.below⟩

theorem par_two (x y : Sec) : par [x, y] = sxor x y := by
  funext j; simp [par, parFrom, sxor, zeroS]
set_option maxHeartbeats 400000 in
theorem xor_any (x y : Sec) (w : World) :
    Calls Try.prog 13 #[secV x, secV y] w fun e w' => e = .returned (secV (sxor x y)) ∧ Below w.heap.size w w' := by
  have hst := St.start w
  go_enter Try.func13, Try.ntmps13
  go_wp2_with (first
    | (with_reducible refine wl_box rfl _ rfl x rfl hst ?_; intro b2 W2 hb2 hc2 hbl2 hst2; clear hst)
    | (with_reducible refine wl_box rfl _ rfl y rfl hst2 ?_; intro b3 W3 hb3 hc3 hbl3 hst3; clear hst2)
    | (with_reducible refine wl_alloc rfl rfl hst3 ?_; intro b4 W4 hb4 hc4 hbl4 hst4; clear hst3)
    | (with_reducible refine wl_load rfl _ rfl hst4 b2 x rfl (by simp) ?_)
    | (with_reducible refine wl_load rfl _ rfl hst4 b3 y rfl (by simp) ?_)
    | (with_reducible refine wl_slice2 rfl _ _ rfl x y rfl rfl hst4 ?_; intro b5 W5 hb5 hc5 hbl5 hst5 hs5; clear hst4)
    | (go_at_call 18; refine (all_any _ _ _ hs5).mono ?_; rintro e W6 ⟨rfl, hbl6⟩; have hst6 := hst5.step hbl6; clear hst5)
    | (with_reducible refine wl_store rfl _ _ rfl hst6 b4 zeroS (par [x, y]) rfl rfl (by simp) [] (by simp) ?_; intro W7 hc7 hbl7 hst7; clear hst6))
  exact ret_sec rfl b4 (par [x, y]) rfl hst7 (by simp) rfl ⟨by rw [par_two], hst7.below⟩

/-- Is a list of sectors data and their parity? -/
def isPar (ss : List Sec) : Bool := secEq (par ss) zeroS
set_option maxHeartbeats 400000 in
theorem check_any (v : Value) (ss : List Sec) (w : World) (hs : IsSecs w v ss) :
    Calls Try.prog 17 #[v] w fun e w' => e = .returned (.bool (isPar ss)) ∧ Below w.heap.size w w' := by
  go_enter Try.func17, Try.ntmps17
  go_wp2_with (first
    | (go_at_call 18; refine (all_any _ _ _ hs).mono ?_; rintro e W3 ⟨rfl, hbl3⟩)
    | (with_reducible refine wl_zero rfl rfl ?_)
    | (with_reducible refine wl_eql rfl _ _ rfl (par ss) zeroS rfl rfl ?_))
  go_ret
  exact ⟨rfl, hbl3⟩
theorem par_three (x y z : Sec) : par [x, y, z] = sxor (sxor x y) z := by
  funext j; simp [par, parFrom, sxor, zeroS]
set_option maxHeartbeats 400000 in
theorem plug_any (x y z : Sec) (w : World) :
    Calls Try.prog 15 #[secV x, secV y, secV z] w fun e w' => e = .returned (secV (sxor (sxor x y) z)) ∧ Below w.heap.size w w' := by
  have hst := St.start w
  go_enter Try.func15, Try.ntmps15
  go_wp2_with (first
    | (with_reducible refine wl_box rfl _ rfl x rfl hst ?_; intro b2 W2 hb2 hc2 hbl2 hst2; clear hst; go_frame)
    | (with_reducible refine wl_box rfl _ rfl y rfl hst2 ?_; intro b3 W3 hb3 hc3 hbl3 hst3; clear hst2; go_frame)
    | (with_reducible refine wl_box rfl _ rfl z rfl hst3 ?_; intro b3' W3' hb3' hc3' hbl3' hst3'; clear hst3; go_frame)
    | (with_reducible refine wl_alloc rfl rfl hst3' ?_; intro b4 W4 hb4 hc4 hbl4 hst4; clear hst3'; go_frame)
    | (with_reducible refine wl_load rfl _ rfl hst4 _ _ rfl (by first | exact mem0 | exact mem1 | exact mem2 | exact mem3 | exact mem4 | exact mem5 | exact mem6) ?_; go_frame)
    | (with_reducible refine wl_slice3 rfl _ _ _ rfl _ _ _ rfl rfl rfl hst4 ?_; intro b5 W5 hb5 hc5 hbl5 hst5 hs5; clear hst4; go_frame)
    | (go_at_call 18; refine (all_any _ _ _ hs5).mono ?_; rintro e W6 ⟨rfl, hbl6⟩; have hst6 := hst5.step hbl6; clear hst5; go_frame)
    | (with_reducible refine wl_store rfl _ _ rfl hst6 b4 zeroS (par [x, y, z]) rfl rfl (by simp) [] (by simp) ?_; intro W7 hc7 hbl7 hst7; clear hst6; go_frame))
  exact ret_sec rfl b4 (par [x, y, z]) rfl hst7 (by simp) rfl ⟨by rw [par_three], hst7.below⟩


end Go.Proofs.Ytpmhhfphbackdaa
