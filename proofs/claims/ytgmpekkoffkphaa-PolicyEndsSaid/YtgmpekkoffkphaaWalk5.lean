/- The walk of the document's own Worth. -/
import Derived.Test.YtgmpekkoffkphaaWalk4
namespace Go.Proofs.Ytgmpekkoffkphaa
open Go.RowKit flt
set_option linter.unusedSimpArgs false
theorem rworth_out (a : Option Addr) (n c : Nat) (i j : Int) (w : World) (h : (isIn i n && isIn j n) = false) :
    Calls Try.prog 17 #[.slice a n c, .int .i64 i, .int .i64 j] w fun e w' => e = .returned (.bool false) ∧ Below w.heap.size w w' := by
  by_cases h1 : i < 0
  · clear h
    go_enter Try.func17, Try.ntmps17
    go_wp2
    exact ret_tmp rfl _ rfl rfl ⟨rfl, Below.refl _ _⟩
  · by_cases h2 : (n : Int) ≤ i
    · clear h
      go_enter Try.func17, Try.ntmps17
      go_wp2
      exact ret_tmp rfl _ rfl rfl ⟨rfl, Below.refl _ _⟩
    · by_cases h3 : j < 0
      · clear h
        go_enter Try.func17, Try.ntmps17
        go_wp2
        exact ret_tmp rfl _ rfl rfl ⟨rfl, Below.refl _ _⟩
      · have h4 : (n : Int) ≤ j := by
          simp [isIn] at h
          omega
        clear h
        go_enter Try.func17, Try.ntmps17
        go_wp2
        exact ret_tmp rfl _ rfl rfl ⟨rfl, Below.refl _ _⟩
set_option maxHeartbeats 1000000 in
theorem rworth_in (b o c : Nat) (l : List Fr) (hok : ∀ p ∈ l, p.ok) (i j : Nat) (w : World) (_hm : l.length ≤ maxLen) (hs : PsAt w b o l) (hil : i < l.length) (hjl : j < l.length) :
    Calls Try.prog 17 #[.slice (some ⟨b, o, none⟩) l.length c, .int .i64 i, .int .i64 j] w fun e w' => e = .returned (.bool (decide (0 < ful l[i].1 l[i].2 (l[j].1 + 1) l[j].2))) ∧ Below w.heap.size w w' := by
  unfold maxLen at _hm
  obtain ⟨c1, c2⟩ := hs i hil
  obtain ⟨c5, c6⟩ := hs j hjl
  have oki : Fr.ok _ := hok _ (List.getElem_mem hil)
  have okj : Fr.ok _ := hok _ (List.getElem_mem hjl)
  have hf := fun W => rfuller_any _ _ _ _ (Fr.small1 oki) (Fr.small2 oki) (Fr.smallUp okj) (Fr.small2 okj) W
  have t1 := ful_three l[i].1 l[i].2 (l[j].1 + 1) l[j].2
  generalize ful l[i].1 l[i].2 (l[j].1 + 1) l[j].2 = f at *
  have ok2 : l[j].1 + 1 < 2 ^ 40 ∧ 0 ≤ l[j].1 := ⟨by have := okj.2.1; omega, okj.1⟩
  clear oki okj hok
  generalize l[i].1 = xi at *
  generalize l[i].2 = ui at *
  generalize l[j].1 = xb at *
  generalize l[j].2 = ub at *
  have g1 : ¬ ((i : Int) < 0) := by omega
  have g2 : ¬ ((l.length : Int) ≤ (i : Int)) := by omega
  have g3 : ¬ ((j : Int) < 0) := by omega
  have g4 : ¬ ((l.length : Int) ≤ (j : Int)) := by omega
  go_enter Try.func17, Try.ntmps17
  go_wp2_with fail
  have hstD := (Below.refl w.heap.size w).drew
  refine Reg.region_ord (S := fun w' => Below w.heap.size w w') [(0, 1), (1, 1), (2, 1), (3, 1), (4, 1), (5, 1), (6, 1), (7, 1), (8, 1), (9, 1), (10, 1), (11, 1), (12, 1), (13, 1), (14, 1), (15, 1), (16, 0), (17, 0), (18, 0)] (by kernel_rfl) (by kernel_rfl) (by decide) (by kernel_rfl) (fun _ _ _ _ _ h => h) ?_
  generalize w.drew = W at *
  refine Reg.ord_move rfl _ rfl rfl hstD ?_; simp only [Act.put, Act.eval, List.setIfInBounds_toArray, List.set_cons_succ, List.set_cons_zero, Array.getD_eq_getD_getElem?, List.getElem?_toArray, List.getElem?_cons_succ, List.getElem?_cons_zero, Option.getD_some]
  refine Reg.ord_move rfl _ rfl rfl hstD ?_; simp only [Act.put, Act.eval, List.setIfInBounds_toArray, List.set_cons_succ, List.set_cons_zero, Array.getD_eq_getD_getElem?, List.getElem?_toArray, List.getElem?_cons_succ, List.getElem?_cons_zero, Option.getD_some]
  refine Reg.ord_val rfl rfl hstD (.pointer (some ⟨b, o + i * 2, none⟩)) (fun w' h => by go_simp) ?_; simp only [Act.put, Act.eval, List.setIfInBounds_toArray, List.set_cons_succ, List.set_cons_zero, Array.getD_eq_getD_getElem?, List.getElem?_toArray, List.getElem?_cons_succ, List.getElem?_cons_zero, Option.getD_some]
  refine Reg.ord_val rfl rfl hstD (prV xi ui) (fun w' h => run_load_p _ rfl (by simp [Act.eval]) (Below.at h c1) (Below.at h c2)) ?_; simp only [Act.put, Act.eval, List.setIfInBounds_toArray, List.set_cons_succ, List.set_cons_zero, Array.getD_eq_getD_getElem?, List.getElem?_toArray, List.getElem?_cons_succ, List.getElem?_cons_zero, Option.getD_some]
  refine Reg.ord_move rfl _ rfl rfl hstD ?_; simp only [Act.put, Act.eval, List.setIfInBounds_toArray, List.set_cons_succ, List.set_cons_zero, Array.getD_eq_getD_getElem?, List.getElem?_toArray, List.getElem?_cons_succ, List.getElem?_cons_zero, Option.getD_some]
  refine Reg.ord_move rfl _ rfl rfl hstD ?_; simp only [Act.put, Act.eval, List.setIfInBounds_toArray, List.set_cons_succ, List.set_cons_zero, Array.getD_eq_getD_getElem?, List.getElem?_toArray, List.getElem?_cons_succ, List.getElem?_cons_zero, Option.getD_some]
  refine Reg.ord_val rfl rfl hstD (.pointer (some ⟨b, o + j * 2, none⟩)) (fun w' h => by go_simp) ?_; simp only [Act.put, Act.eval, List.setIfInBounds_toArray, List.set_cons_succ, List.set_cons_zero, Array.getD_eq_getD_getElem?, List.getElem?_toArray, List.getElem?_cons_succ, List.getElem?_cons_zero, Option.getD_some]
  refine Reg.ord_val rfl rfl hstD (.pointer (some ⟨b, o + j * 2, none⟩)) (fun w' h => by go_simp) ?_; simp only [Act.put, Act.eval, List.setIfInBounds_toArray, List.set_cons_succ, List.set_cons_zero, Array.getD_eq_getD_getElem?, List.getElem?_toArray, List.getElem?_cons_succ, List.getElem?_cons_zero, Option.getD_some]
  refine Reg.ord_val rfl rfl hstD (.int .i64 xb) (fun w' h => run_load_i _ rfl (by simp [Act.eval]) (Below.at h c5)) ?_; simp only [Act.put, Act.eval, List.setIfInBounds_toArray, List.set_cons_succ, List.set_cons_zero, Array.getD_eq_getD_getElem?, List.getElem?_toArray, List.getElem?_cons_succ, List.getElem?_cons_zero, Option.getD_some]
  refine Reg.ord_val rfl rfl hstD (.int .i64 (xb + 1)) (fun w' h => by go_simp; exact IntWalk.i64_in _ (by omega)) ?_; simp only [Act.put, Act.eval, List.setIfInBounds_toArray, List.set_cons_succ, List.set_cons_zero, Array.getD_eq_getD_getElem?, List.getElem?_toArray, List.getElem?_cons_succ, List.getElem?_cons_zero, Option.getD_some]
  refine Reg.ord_move rfl _ rfl rfl hstD ?_; simp only [Act.put, Act.eval, List.setIfInBounds_toArray, List.set_cons_succ, List.set_cons_zero, Array.getD_eq_getD_getElem?, List.getElem?_toArray, List.getElem?_cons_succ, List.getElem?_cons_zero, Option.getD_some]
  refine Reg.ord_move rfl _ rfl rfl hstD ?_; simp only [Act.put, Act.eval, List.setIfInBounds_toArray, List.set_cons_succ, List.set_cons_zero, Array.getD_eq_getD_getElem?, List.getElem?_toArray, List.getElem?_cons_succ, List.getElem?_cons_zero, Option.getD_some]
  refine Reg.ord_val rfl rfl hstD (.pointer (some ⟨b, o + j * 2, none⟩)) (fun w' h => by go_simp) ?_; simp only [Act.put, Act.eval, List.setIfInBounds_toArray, List.set_cons_succ, List.set_cons_zero, Array.getD_eq_getD_getElem?, List.getElem?_toArray, List.getElem?_cons_succ, List.getElem?_cons_zero, Option.getD_some]
  refine Reg.ord_val rfl rfl hstD (.pointer (some ⟨b, o + j * 2 + 1, none⟩)) (fun w' h => by go_simp) ?_; simp only [Act.put, Act.eval, List.setIfInBounds_toArray, List.set_cons_succ, List.set_cons_zero, Array.getD_eq_getD_getElem?, List.getElem?_toArray, List.getElem?_cons_succ, List.getElem?_cons_zero, Option.getD_some]
  refine Reg.ord_val rfl rfl hstD (.int .i64 ub) (fun w' h => run_load_i _ rfl (by simp [Act.eval]) (Below.at h c6)) ?_; simp only [Act.put, Act.eval, List.setIfInBounds_toArray, List.set_cons_succ, List.set_cons_zero, Array.getD_eq_getD_getElem?, List.getElem?_toArray, List.getElem?_cons_succ, List.getElem?_cons_zero, Option.getD_some]
  refine Reg.ord_val rfl rfl hstD (prV (xb + 1) ub) (fun w' h => by go_simp; rfl) ?_; simp only [Act.put, Act.eval, List.setIfInBounds_toArray, List.set_cons_succ, List.set_cons_zero, Array.getD_eq_getD_getElem?, List.getElem?_toArray, List.getElem?_cons_succ, List.getElem?_cons_zero, Option.getD_some]
  refine Reg.ord_call rfl rfl 15 _ (by go_simp) (hf _) (fun W6 hb6 => ⟨hstD.trans (hb6.mono hstD.size), ?_⟩)
  have hst := hstD.trans (hb6.mono hstD.size)
  clear hstD hb6
  simp only [Act.put, Act.eval, List.setIfInBounds_toArray, List.set_cons_succ, List.set_cons_zero, Array.getD_eq_getD_getElem?, List.getElem?_toArray, List.getElem?_cons_succ, List.getElem?_cons_zero, Option.getD_some]
  refine Reg.ord_step rfl ?_
  refine wl_eqli rfl 3 _ _ rfl f 1 (by simp [Act.eval]) rfl ?_
  refine wpList_nil ⟨hst, ?_⟩
  simp only [Act.put, Act.eval, List.setIfInBounds_toArray, List.set_cons_succ, List.set_cons_zero, Array.getD_eq_getD_getElem?, List.getElem?_toArray, List.getElem?_cons_succ, List.getElem?_cons_zero, Option.getD_some]
  refine Reg.ord_step rfl ?_
  go_wp2_with fail
  refine ⟨hst, ?_⟩
  refine Reg.ord_nil ?_
  go_wp2
  refine ret_tmp rfl _ rfl rfl ⟨?_, hst⟩
  rcases t1 with rfl | rfl | rfl <;> rfl
theorem rworth_any (v : Value) (l : List Fr) (hok : ∀ p ∈ l, p.ok) (i j : Int) (w : World) (hs : IsPs w v l) :
    Calls Try.prog 17 #[v, .int .i64 i, .int .i64 j] w fun e w' => e = .returned (.bool (worthB l i j)) ∧ Below w.heap.size w w' := by
  by_cases hb : (isIn i l.length && isIn j l.length) = true
  · have hb' := hb
    rw [Bool.and_eq_true] at hb'
    have h1 : 0 ≤ i ∧ i < l.length := by simpa [isIn] using hb'.1
    have h2 : 0 ≤ j ∧ j < l.length := by simpa [isIn] using hb'.2
    rw [worthB, hb'.1, hb'.2, Bool.true_and, Bool.true_and]
    rcases hs with ⟨a, c, rfl, _, rfl⟩ | ⟨b, o, c, rfl, hne, hm, _, hs⟩
    · rw [List.length_nil] at h1; omega
    · obtain ⟨m, rfl⟩ := Int.eq_ofNat_of_zero_le h1.1
      obtain ⟨n, rfl⟩ := Int.eq_ofNat_of_zero_le h2.1
      have k1 : m < l.length := by omega
      have k2 : n < l.length := by omega
      have h := rworth_in b o c l hok m n w hm hs k1 k2
      have e1 : l.getD m (0, 1) = l[m] := by simp [List.getD_eq_getElem?_getD, k1]
      have e2 : l.getD n (0, 1) = l[n] := by simp [List.getD_eq_getElem?_getD, k2]
      rw [Int.toNat_natCast, Int.toNat_natCast, e1, e2]
      exact h
  · have hb' : (isIn i l.length && isIn j l.length) = false := by simpa using hb
    have e : worthB l i j = false := by rw [worthB, ← Bool.and_assoc, hb', Bool.false_and]
    rw [e]
    rcases hs with ⟨a, c, rfl, _, rfl⟩ | ⟨b, o, c, rfl, hne, hm, _, hs⟩
    · exact rworth_out a 0 c i j w hb'
    · exact rworth_out _ l.length c i j w hb'
end Go.Proofs.Ytgmpekkoffkphaa
