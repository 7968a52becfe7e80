/- Plain facts: moving one from the fullest to where it fits best, as long as it is worth it. -/
import Derived.Test.YtgmpekkoffkphaaBits
namespace Go.Proofs.Ytgmpekkoffkphaa
open Go.RowKit flt

def upF (p : Fr) : Fr := (p.1 + 1, p.2)
def at0 (l : List Fr) (i : Nat) : Fr := l.getD i (0, 1)
def okE (p : Fr) : Prop := 0 ≤ p.1 ∧ p.1 ≤ p.2 ∧ 1 ≤ p.2 ∧ p.2 ≤ 32
theorem okE.ok {p : Fr} (h : okE p) : Fr.ok p := by
  obtain ⟨h1, h2, h3, h4⟩ := h
  exact ⟨h1, by omega, h3, by omega⟩
theorem at0_mem {l : List Fr} {i : Nat} (h : i < l.length) : at0 l i ∈ l := by
  unfold at0
  rw [List.getD_eq_getElem?_getD, List.getElem?_eq_getElem h]
  exact List.getElem_mem h
theorem at0_eq {l : List Fr} {i : Nat} (h : i < l.length) : at0 l i = l[i] := by
  unfold at0
  rw [List.getD_eq_getElem?_getD, List.getElem?_eq_getElem h]; rfl
theorem at0_pos {l : List Fr} (h : ∀ p ∈ l, okE p) (i : Nat) : 0 < (at0 l i).2 := by
  by_cases hi : i < l.length
  · have := (h _ (at0_mem hi)).2.2.1; omega
  · unfold at0
    rw [List.getD_eq_getElem?_getD, List.getElem?_eq_none (by omega)]
    decide
theorem leF_refl (p : Fr) : leF p p := by unfold leF; omega
theorem wrs_max {l : List Fr} (h : ∀ p ∈ l, okE p) : ∀ (k i : Nat), i < k → leF (at0 l i) (at0 l (wrs l k))
  | 0, _, hi => absurd hi (Nat.not_lt_zero _)
  | k + 1, i, hi => by
    have ih := wrs_max h k
    have hp := at0_pos h
    have hf : fulAt l k (wrs l k) = ful (at0 l k).1 (at0 l k).2 (at0 l (wrs l k)).1 (at0 l (wrs l k)).2 := rfl
    have h1 := ful_le (at0 l k) (at0 l (wrs l k))
    rw [← hf] at h1
    unfold wrs
    by_cases hc : 0 < fulAt l k (wrs l k)
    · rw [if_pos hc]
      by_cases hk : i < k
      · rcases leF_total (at0 l k) (at0 l (wrs l k)) with h2 | h2
        · have := h1.2 h2; omega
        · exact leF_trans (hp _) (hp _) (hp _) (ih i hk) h2
      · obtain rfl : i = k := by omega
        exact leF_refl _
    · rw [if_neg hc]
      by_cases hk : i < k
      · exact ih i hk
      · obtain rfl : i = k := by omega
        exact h1.1 (by omega)
theorem bst_min {l : List Fr} (h : ∀ p ∈ l, okE p) : ∀ (k i : Nat), i < k → leF (upF (at0 l (bst l k))) (upF (at0 l i))
  | 0, _, hi => absurd hi (Nat.not_lt_zero _)
  | k + 1, i, hi => by
    have ih := bst_min h k
    have hp := at0_pos h
    have hf : fulUp l k (bst l k) = ful (upF (at0 l k)).1 (upF (at0 l k)).2 (upF (at0 l (bst l k))).1 (upF (at0 l (bst l k))).2 := rfl
    have h1 := ful_le (upF (at0 l (bst l k))) (upF (at0 l k))
    rw [ful_neg (upF (at0 l k)).1 (upF (at0 l k)).2, ← hf] at h1
    unfold bst
    by_cases hc : fulUp l k (bst l k) < 0
    · rw [if_pos hc]
      by_cases hk : i < k
      · rcases leF_total (upF (at0 l k)) (upF (at0 l (bst l k))) with h2 | h2
        · exact leF_trans (p := upF (at0 l k)) (q := upF (at0 l (bst l k))) (r := upF (at0 l i)) (hp _) (hp _) (hp _) h2 (ih i hk)
        · have := h1.2 h2; omega
      · obtain rfl : i = k := by omega
        exact leF_refl _
    · rw [if_neg hc]
      by_cases hk : i < k
      · exact ih i hk
      · obtain rfl : i = k := by omega
        exact h1.1 (by omega)

/-- How much is used in all. -/
def sumU : List Fr → Int
  | [] => 0
  | p :: l => p.1 + sumU l
/-- How much is with those who have got none. -/
def pot : List Fr → List Bool → Int
  | p :: l, b :: g => (if b then 0 else p.1) + pot l g
  | _, _ => 0
theorem sumU_set : ∀ (l : List Fr) (i : Nat) (a : Fr), i < l.length → sumU (l.set i a) = sumU l - (at0 l i).1 + a.1
  | p :: l, 0, a, _ => by simp [sumU, at0]; omega
  | p :: l, i + 1, a, h => by
    have ih := sumU_set l i a (by simpa using h)
    have e : at0 (p :: l) (i + 1) = at0 l i := rfl
    simp only [List.set_cons_succ, sumU, ih, e]; omega
theorem pot_set : ∀ (l : List Fr) (g : List Bool) (i : Nat) (a : Fr), i < l.length → g.length = l.length → pot (l.set i a) g = pot l g + (if g.getD i false then 0 else a.1 - (at0 l i).1)
  | p :: l, b :: g, 0, a, _, _ => by cases b <;> simp [pot, at0] <;> omega
  | p :: l, b :: g, i + 1, a, h, hg => by
    have ih := pot_set l g i a (by simpa using h) (by simpa using hg)
    have e : at0 (p :: l) (i + 1) = at0 l i := rfl
    have e2 : (b :: g).getD (i + 1) false = g.getD i false := rfl
    simp only [List.set_cons_succ, pot, ih, e, e2]; omega
theorem pot_got : ∀ (l : List Fr) (g : List Bool) (i : Nat), i < l.length → g.length = l.length → pot l (g.set i true) = pot l g - (if g.getD i false then 0 else (at0 l i).1)
  | p :: l, b :: g, 0, _, _ => by cases b <;> simp [pot, at0] <;> omega
  | p :: l, b :: g, i + 1, h, hg => by
    have ih := pot_got l g i (by simpa using h) (by simpa using hg)
    have e : at0 (p :: l) (i + 1) = at0 l i := rfl
    have e2 : (b :: g).getD (i + 1) false = g.getD i false := rfl
    simp only [List.set_cons_succ, pot, ih, e, e2]; omega
theorem pot_nonneg : ∀ (l : List Fr) (g : List Bool), (∀ p ∈ l, okE p) → 0 ≤ pot l g
  | [], _, _ => Int.le_refl _
  | _ :: _, [], _ => Int.le_refl _
  | p :: l, b :: g, h => by
    have ih := pot_nonneg l g (fun q hq => h q (List.mem_cons_of_mem _ hq))
    have := (h p List.mem_cons_self).1
    unfold pot
    split <;> omega
theorem pot_ge : ∀ (l : List Fr) (g : List Bool) (i : Nat), (∀ p ∈ l, okE p) → i < l.length → g.length = l.length → g.getD i false = false → (at0 l i).1 ≤ pot l g
  | p :: l, b :: g, 0, h, _, _, hb => by
    have ih := pot_nonneg l g (fun q hq => h q (List.mem_cons_of_mem _ hq))
    have hb' : b = false := hb
    subst hb'
    simp [pot, at0]; omega
  | p :: l, b :: g, i + 1, h, hi, hg, hb => by
    have ih := pot_ge l g i (fun q hq => h q (List.mem_cons_of_mem _ hq)) (by simpa using hi) (by simpa using hg) hb
    have := (h p List.mem_cons_self).1
    have e : at0 (p :: l) (i + 1) = at0 l i := rfl
    rw [e]
    unfold pot
    split <;> omega
theorem at0_set (l : List Fr) (i k : Nat) (a : Fr) (h : i < l.length) : at0 (l.set i a) k = if k = i then a else at0 l k := by
  unfold at0
  rw [List.getD_eq_getElem?_getD, List.getElem?_set, List.getD_eq_getElem?_getD]
  by_cases e : i = k
  · subst e; simp [h]
  · simp [e, Ne.symm e]
theorem got_set (g : List Bool) (i k : Nat) (h : i < g.length) : (g.set i true).getD k false = if k = i then true else g.getD k false := by
  rw [List.getD_eq_getElem?_getD, List.getElem?_set, List.getD_eq_getElem?_getD]
  by_cases e : i = k
  · subst e; simp [h]
  · simp [e, Ne.symm e]

structure Inv (l : List Fr) (g : List Bool) (A s : Int) : Prop where
  len : g.length = l.length
  ok : ∀ p ∈ l, okE p
  sum : sumU l = A
  nat : 0 ≤ s
  pot : s + pot l g ≤ A
  got : ∀ i, i < l.length → g.getD i false = true → ∀ k, k < l.length → leF (at0 l i) (upF (at0 l k))

/-- One is moved from the x-th to the y-th. -/
def moved (l : List Fr) (x y : Nat) : List Fr := (l.set x ((at0 l x).1 - 1, (at0 l x).2)).set y ((at0 l y).1 + 1, (at0 l y).2)

theorem inv_step {l : List Fr} {g : List Bool} {A s : Int} (h : Inv l g A s) (hx : wrs l l.length < l.length) (hy : bst l l.length < l.length)
    (hw : 0 < ful (at0 l (wrs l l.length)).1 (at0 l (wrs l l.length)).2 ((at0 l (bst l l.length)).1 + 1) (at0 l (bst l l.length)).2) :
    s < A ∧ g.getD (wrs l l.length) false = false ∧ wrs l l.length ≠ bst l l.length ∧ 1 ≤ (at0 l (wrs l l.length)).1 ∧ (at0 l (bst l l.length)).1 + 1 ≤ (at0 l (bst l l.length)).2 ∧
    Inv (moved l (wrs l l.length) (bst l l.length)) (g.set (bst l l.length) true) A (s + 1) := by
  have hmax := fun i => wrs_max h.ok l.length i
  have hmin := fun i => bst_min h.ok l.length i
  generalize wrs l l.length = x at *
  generalize bst l l.length = y at *
  have ox := h.ok _ (at0_mem hx)
  have oy := h.ok _ (at0_mem hy)
  have hp := at0_pos h.ok
  have hw' := (ful_pos _ _ _ _).1 hw
  have hgx : g.getD x false = false := by
    cases hg : g.getD x false with
    | false => rfl
    | true =>
      have h1 := h.got x hx hg y hy
      have h2 : (at0 l x).1 * (at0 l y).2 ≤ ((at0 l y).1 + 1) * (at0 l x).2 := h1
      omega
  have hne : x ≠ y := by
    rintro rfl
    rw [Int.add_mul, Int.one_mul] at hw'
    have := hp x
    omega
  have h1 : 1 ≤ (at0 l x).1 := by
    rcases (by omega : 0 < (at0 l x).1 ∨ (at0 l x).1 ≤ 0) with h3 | h3
    · omega
    · exfalso
      have h4 : (at0 l x).1 * (at0 l y).2 ≤ 0 := Int.mul_nonpos_of_nonpos_of_nonneg h3 (Int.le_of_lt (hp y))
      have h5 : 0 ≤ ((at0 l y).1 + 1) * (at0 l x).2 := Int.mul_nonneg (by have := oy.1; omega) (Int.le_of_lt (hp x))
      omega
  have h2 : (at0 l y).1 + 1 ≤ (at0 l y).2 := by
    have h3 : (at0 l x).1 * (at0 l y).2 ≤ (at0 l x).2 * (at0 l y).2 := Int.mul_le_mul_of_nonneg_right ox.2.1 (Int.le_of_lt (hp y))
    rw [Int.mul_comm (at0 l x).2] at h3
    have h4 : ((at0 l y).1 + 1) * (at0 l x).2 ≤ (at0 l y).2 * (at0 l x).2 := by omega
    exact Int.le_of_mul_le_mul_right h4 (hp x)
  have hxl : y < (l.set x ((at0 l x).1 - 1, (at0 l x).2)).length := by rw [List.length_set]; exact hy
  have e1 : at0 (l.set x ((at0 l x).1 - 1, (at0 l x).2)) y = at0 l y := by rw [at0_set l x y _ hx, if_neg (Ne.symm hne)]
  have hat : ∀ k, at0 (moved l x y) k = if k = y then ((at0 l y).1 + 1, (at0 l y).2) else if k = x then ((at0 l x).1 - 1, (at0 l x).2) else at0 l k := fun k => by
    unfold moved
    rw [at0_set _ y k _ hxl, at0_set l x k _ hx]
  have hlen : (moved l x y).length = l.length := by unfold moved; rw [List.length_set, List.length_set]
  have hge := pot_ge l g x h.ok hx h.len hgx
  refine ⟨by have := h.pot; omega, hgx, hne, h1, h2, ⟨?_, ?_, ?_, ?_, ?_, ?_⟩⟩
  · rw [List.length_set, hlen, h.len]
  · intro p hpm
    unfold moved at hpm
    rcases List.mem_or_eq_of_mem_set hpm with h3 | rfl
    · rcases List.mem_or_eq_of_mem_set h3 with h4 | rfl
      · exact h.ok p h4
      · exact ⟨by show 0 ≤ (at0 l x).1 - 1; omega, by show (at0 l x).1 - 1 ≤ (at0 l x).2; have := ox.2.1; omega, ox.2.2.1, ox.2.2.2⟩
    · exact ⟨by show 0 ≤ (at0 l y).1 + 1; have := oy.1; omega, h2, oy.2.2.1, oy.2.2.2⟩
  · unfold moved
    rw [sumU_set _ y _ hxl, e1, sumU_set l x _ hx]
    have := h.sum
    show sumU l - (at0 l x).1 + ((at0 l x).1 - 1) - (at0 l y).1 + ((at0 l y).1 + 1) = A
    omega
  · have := h.nat; omega
  · have hl2 : g.length = (l.set x ((at0 l x).1 - 1, (at0 l x).2)).length := by rw [List.length_set]; exact h.len
    have hl3 : g.length = (moved l x y).length := by rw [hlen]; exact h.len
    rw [pot_got (moved l x y) g y (by rw [hlen]; exact hy) hl3]
    have e2 : at0 (moved l x y) y = ((at0 l y).1 + 1, (at0 l y).2) := by rw [hat, if_pos rfl]
    have e3 : Proofs.Ytgmpekkoffkphaa.pot (moved l x y) g = Proofs.Ytgmpekkoffkphaa.pot (l.set x ((at0 l x).1 - 1, (at0 l x).2)) g + (if g.getD y false then 0 else (at0 l y).1 + 1 - (at0 l y).1) := by
      unfold moved
      rw [pot_set _ g y _ hxl hl2, e1]
    rw [e2, e3, pot_set l g x _ hx h.len, hgx]
    have := h.pot
    have := oy.1
    show s + 1 + (Proofs.Ytgmpekkoffkphaa.pot l g + ((at0 l x).1 - 1 - (at0 l x).1) + (if g.getD y false = true then 0 else (at0 l y).1 + 1 - (at0 l y).1) - (if g.getD y false = true then 0 else (at0 l y).1 + 1)) ≤ A
    split <;> omega
  · intro i hi hgi k hk
    rw [hlen] at hi hk
    rw [got_set g y i (by rw [h.len]; exact hy)] at hgi
    rw [hat i, hat k]
    by_cases hiy : i = y
    · subst hiy
      rw [if_pos rfl]
      by_cases hky : k = i
      · rw [if_pos hky]
        have := hp i
        show ((at0 l i).1 + 1) * (at0 l i).2 ≤ ((at0 l i).1 + 1 + 1) * (at0 l i).2
        rw [Int.add_mul ((at0 l i).1 + 1) 1, Int.one_mul]; omega
      · rw [if_neg hky]
        by_cases hkx : k = x
        · rw [if_pos hkx]
          show ((at0 l i).1 + 1) * (at0 l x).2 ≤ ((at0 l x).1 - 1 + 1) * (at0 l i).2
          rw [Int.sub_add_cancel]; omega
        · rw [if_neg hkx]
          exact hmin k hk
    · rw [if_neg hiy] at hgi ⊢
      have hix : i ≠ x := by rintro rfl; rw [hgx] at hgi; cases hgi
      rw [if_neg hix]
      have hi1 := h.got i hi hgi
      by_cases hky : k = y
      · rw [if_pos hky]
        have h3 : (at0 l i).1 * (at0 l y).2 ≤ ((at0 l y).1 + 1) * (at0 l i).2 := hi1 y hy
        have := hp i
        show (at0 l i).1 * (at0 l y).2 ≤ ((at0 l y).1 + 1 + 1) * (at0 l i).2
        rw [Int.add_mul ((at0 l y).1 + 1) 1, Int.one_mul]; omega
      · rw [if_neg hky]
        by_cases hkx : k = x
        · rw [if_pos hkx]
          have h3 : (at0 l i).1 * (at0 l x).2 ≤ (at0 l x).1 * (at0 l i).2 := hmax i hi
          show (at0 l i).1 * (at0 l x).2 ≤ ((at0 l x).1 - 1 + 1) * (at0 l i).2
          rw [Int.sub_add_cancel]; exact h3
        · rw [if_neg hkx]
          exact hi1 k hk
theorem even_end {l : List Fr} (hok : ∀ p ∈ l, okE p) (hw : ful (at0 l (wrs l l.length)).1 (at0 l (wrs l l.length)).2 ((at0 l (bst l l.length)).1 + 1) (at0 l (bst l l.length)).2 ≤ 0) (i k : Nat) (hi : i < l.length) (hk : k < l.length) :
    (at0 l i).1 * (at0 l k).2 ≤ ((at0 l k).1 + 1) * (at0 l i).2 := by
  have hp := at0_pos hok
  have h1 : leF (at0 l (wrs l l.length)) (upF (at0 l (bst l l.length))) := (ful_le _ (upF (at0 l (bst l l.length)))).1 hw
  exact leF_trans (p := at0 l i) (r := upF (at0 l k)) (hp _) (hp (wrs l l.length)) (hp _) (wrs_max hok l.length i hi) (leF_trans (q := upF (at0 l (bst l l.length))) (hp _) (hp _) (hp _) h1 (bst_min hok l.length k hk))
end Go.Proofs.Ytgmpekkoffkphaa
