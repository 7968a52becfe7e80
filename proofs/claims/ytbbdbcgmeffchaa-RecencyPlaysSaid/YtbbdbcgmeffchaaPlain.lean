/- Plain facts on rows: lists in which each is there once; no program. -/
import Derived.Test.YtbbdbcgmeffchaaOpen
namespace Go.Proofs.Ytbbdbcgmeffchaa
open Go.RowKit

/-- One is touched. -/
def touchF (bs : List Int) (b : Int) : List Int := bs.filter (· != b) ++ [b]
/-- The row behind these touches. -/
def rowOf (l : List Int) : List Int := l.foldl touchF []
theorem rowOf_succ (l : List Int) (k : Nat) (h : k < l.length) : rowOf (l.take (k + 1)) = touchF (rowOf (l.take k)) l[k] := by
  rw [List.take_succ_eq_append_getElem h]
  unfold rowOf
  rw [List.foldl_append]
  rfl
theorem touchF_len (bs : List Int) (b : Int) : (touchF bs b).length ≤ bs.length + 1 := by
  unfold touchF
  rw [List.length_append]
  have := List.length_filter_le (· != b) bs
  simp only [List.length_singleton]
  omega
theorem mem_touchF {bs : List Int} {b x : Int} : x ∈ touchF bs b ↔ x ∈ bs ∨ x = b := by
  unfold touchF
  rw [List.mem_append, List.mem_filter, List.mem_singleton]
  constructor
  · rintro (h | h)
    · exact .inl h.1
    · exact .inr h
  · rintro (h | h)
    · by_cases e : x = b
      · exact .inr e
      · exact .inl ⟨h, by simpa using e⟩
    · exact .inr h
theorem nodup_touchF {bs : List Int} (h : bs.Nodup) (b : Int) : (touchF bs b).Nodup := by
  unfold touchF
  rw [List.nodup_append]
  refine ⟨h.filter _, by simp, fun a ha c hc => ?_⟩
  rw [List.mem_singleton] at hc
  subst hc
  have := (List.mem_filter.1 ha).2
  simpa using this
theorem rowOf_len (l : List Int) : ∀ k, k ≤ l.length → (rowOf (l.take k)).length ≤ k
  | 0, _ => by simp [rowOf]
  | k + 1, h => by
    rw [rowOf_succ l k (by omega)]
    have := touchF_len (rowOf (l.take k)) l[k]
    have := rowOf_len l k (by omega)
    omega
theorem rowOf_nodup (l : List Int) : ∀ k, k ≤ l.length → (rowOf (l.take k)).Nodup
  | 0, _ => by simp [rowOf]
  | k + 1, h => by
    rw [rowOf_succ l k (by omega)]
    exact nodup_touchF (rowOf_nodup l k (by omega)) _
theorem mem_rowOf (l : List Int) (x : Int) : ∀ k, k ≤ l.length → (x ∈ rowOf (l.take k) ↔ x ∈ l.take k)
  | 0, _ => by simp [rowOf]
  | k + 1, h => by
    rw [rowOf_succ l k (by omega), mem_touchF, mem_rowOf l x k (by omega), List.take_succ_eq_append_getElem (by omega), List.mem_append, List.mem_singleton]
/-- Where was x touched last, of the first k times? -/
def la (l : List Int) (x : Int) : Nat → Int
  | 0 => -1
  | k + 1 => if l.getD k 0 = x then k else la l x k
theorem la_succ (l : List Int) (x : Int) (k : Nat) : la l x (k + 1) = if l.getD k 0 = x then (k : Int) else la l x k := rfl
theorem la_lt (l : List Int) (x : Int) : ∀ k, la l x k < k
  | 0 => by show (-1 : Int) < 0; decide
  | k + 1 => by have := la_lt l x k; rw [la_succ]; split <;> omega
theorem la_ge (l : List Int) (x : Int) : ∀ k, -1 ≤ la l x k
  | 0 => Int.le_refl _
  | k + 1 => by have := la_ge l x k; rw [la_succ]; split <;> omega
theorem rowOf_order (l : List Int) : ∀ k, k ≤ l.length → (rowOf (l.take k)).Pairwise (fun x y => la l x k < la l y k) ∧ ∀ x ∈ rowOf (l.take k), 0 ≤ la l x k
  | 0, _ => by simp [rowOf]
  | k + 1, h => by
    obtain ⟨h1, h2⟩ := rowOf_order l k (by omega)
    have hlt : k < l.length := by omega
    have hb : l.getD k 0 = l[k] := by rw [List.getD_eq_getElem?_getD, List.getElem?_eq_getElem hlt]; rfl
    rw [rowOf_succ l k hlt]
    have hs : ∀ x, x ≠ l[k] → la l x (k + 1) = la l x k := fun x hx => by
      rw [la_succ, hb, if_neg (Ne.symm hx)]
    have hk : la l l[k] (k + 1) = k := by rw [la_succ, hb, if_pos rfl]
    constructor
    · unfold touchF
      rw [List.pairwise_append]
      refine ⟨(h1.filter _).imp_of_mem fun {a b} ha hb' hlt' => ?_, by simp, fun a ha b hb' => ?_⟩
      · have e1 : a ≠ l[k] := by simpa using (List.mem_filter.1 ha).2
        have e2 : b ≠ l[k] := by simpa using (List.mem_filter.1 hb').2
        rw [hs a e1, hs b e2]
        exact hlt'
      · rw [List.mem_singleton] at hb'
        subst hb'
        have e1 : a ≠ l[k] := by simpa using (List.mem_filter.1 ha).2
        rw [hs a e1, hk]
        exact la_lt l a k
    · intro x hx
      by_cases e : x = l[k]
      · subst e; rw [hk]; omega
      · rw [hs x e]
        rcases mem_touchF.1 hx with hx | hx
        · exact h2 x hx
        · exact absurd hx e
/-- How often does y stand among the first i of these? -/
def cnt (bs : List Int) (y : Int) : Nat → Nat
  | 0 => 0
  | i + 1 => if bs.getD i 0 = y then cnt bs y i + 1 else cnt bs y i
theorem cnt_succ (bs : List Int) (y : Int) (i : Nat) : cnt bs y (i + 1) = if bs.getD i 0 = y then cnt bs y i + 1 else cnt bs y i := rfl
theorem cnt_eq (bs : List Int) (y : Int) : ∀ i, i ≤ bs.length → cnt bs y i = (bs.take i).count y
  | 0, _ => by simp [cnt]
  | i + 1, h => by
    have ih := cnt_eq bs y i (by omega)
    have hb : bs.getD i 0 = bs[i] := by rw [List.getD_eq_getElem?_getD, List.getElem?_eq_getElem (by omega)]; rfl
    rw [List.take_succ_eq_append_getElem (by omega), List.count_append, ← ih]
    rw [cnt_succ, hb]
    by_cases e : bs[i] = y
    · subst e; simp
    · rw [if_neg e, List.count_singleton]
      simp [e]
theorem cnt_one {bs : List Int} (h : bs.Nodup) {y : Int} (hy : y ∈ bs) : cnt bs y bs.length = 1 := by
  rw [cnt_eq bs y _ (Nat.le_refl _), List.take_length]
  have h1 := List.nodup_iff_count.1 h y
  have h2 := List.count_pos_iff.2 hy
  omega
theorem cnt_le (bs : List Int) (y : Int) : ∀ i, cnt bs y i ≤ i
  | 0 => Nat.le_refl _
  | i + 1 => by have := cnt_le bs y i; rw [cnt_succ]; split <;> omega
theorem Row.down {w : World} {base base' r : Nat} {bs : List Int} {F : Nat → Prop} (h : Row w base r bs F) (hb : base' ≤ base) : Row w base' r bs F := by
  obtain ⟨c, m, ps, h, e⟩ := h
  exact ⟨c, m, ps, { h with low := fun k hk => ⟨Nat.le_trans hb (h.low k hk).1, (h.low k hk).2⟩ }, e⟩
theorem IsI.at {w : World} {a : Option Addr} {n c : Nat} {l : List Int} (h : IsI w (.slice a n c) l) (hp : 0 < l.length) : ∃ b o, a = some ⟨b, o, none⟩ ∧ ∀ i (h : i < l.length), w.cell? ⟨b, o + i, none⟩ = some (.int .i64 l[i]) := by
  obtain ⟨a', c', hv, _, _, hs⟩ := h
  simp only [Value.slice.injEq] at hv
  obtain ⟨rfl, rfl, rfl⟩ := hv
  exact hs hp
theorem IsI.form {w : World} {v : Value} {l : List Int} (h : IsI w v l) : ∃ a c, v = .slice a l.length c ∧ l.length ≤ maxLen ∧ l.length ≤ c := by
  obtain ⟨a', c', hv, h1, h2, _⟩ := h
  exact ⟨a', c', hv, h1, h2⟩
theorem getD_of {l : List Int} {i : Nat} (h : i < l.length) : l.getD i 0 = l[i] := by rw [List.getD_eq_getElem?_getD, List.getElem?_eq_getElem h]; rfl
end Go.Proofs.Ytbbdbcgmeffchaa
