/- A row in memory: a ring of links and a map of its places. Plain facts on the heap; no walk. -/
import Derived.Test.YtbbdbcgmeffchaaRing1
namespace Go.Proofs.Ytbbdbcgmeffchaa
open Go.RowKit
open Go.Maps (Keyed)
set_option linter.unusedSimpArgs false

/-- w' is w but for the blocks of G, and for new ones. -/
structure Upd (G : Nat → Prop) (w w' : World) : Prop where
  os : w'.os = w.os
  tape : w'.tape = w.tape
  output : w'.output = w.output
  size : w.heap.size ≤ w'.heap.size
  block : ∀ k, k < w.heap.size → ¬ G k → w'.heap[k]? = w.heap[k]?
theorem Upd.refl (G : Nat → Prop) (w : World) : Upd G w w := ⟨rfl, rfl, rfl, Nat.le_refl _, fun _ _ _ => rfl⟩
theorem Upd.trans {G G' : Nat → Prop} {a b c : World} (h : Upd G a b) (h' : Upd G' b c) (hG : ∀ k, k < a.heap.size → G' k → G k) : Upd G a c :=
  ⟨h'.os.trans h.os, h'.tape.trans h.tape, h'.output.trans h.output, Nat.le_trans h.size h'.size, fun k hk hn => (h'.block k (Nat.lt_of_lt_of_le hk h.size) (fun hg => hn (hG k hk hg))).trans (h.block k hk hn)⟩
theorem Upd.mono {G G' : Nat → Prop} {a b : World} (h : Upd G a b) (hG : ∀ k, k < a.heap.size → G k → G' k) : Upd G' a b :=
  ⟨h.os, h.tape, h.output, h.size, fun k hk hn => h.block k hk (fun hg => hn (hG k hk hg))⟩
theorem Upd.of_below {w w' : World} (h : Below w.heap.size w w') (G : Nat → Prop) : Upd G w w' := ⟨h.os, h.tape, h.output, h.size, fun k hk _ => h.block k hk⟩
theorem Upd.below {G : Nat → Prop} {w0 w w' : World} {B : Nat} (h : Upd G w w') (h0 : Below B w0 w) (hB : B ≤ w.heap.size) (hG : ∀ k, G k → B ≤ k) : Below B w0 w' :=
  h0.trans ⟨h.os, h.tape, h.output, h.size, fun k hk => h.block k (Nat.lt_of_lt_of_le hk hB) (fun hg => by have := hG k hg; omega)⟩
theorem Upd.drew {G : Nat → Prop} {a b : World} (h : Upd G a b) : Upd G a b.drew := ⟨h.os, h.tape, h.output, h.size, h.block⟩
theorem Upd.setCell {G : Nat → Prop} {a b : World} (h : Upd G a b) (g o : Nat) (v : Value) (hg : G g) : Upd G a (b.setCell ⟨g, o, none⟩ v) :=
  ⟨h.os, h.tape, h.output, by rw [World.size_setCell]; exact h.size, fun k hk hn => by
    rw [Below.heap_setCell _ _ _ _ (fun e => hn (by rw [e]; exact hg))]
    exact h.block k hk hn⟩
theorem Upd.alloc {G : Nat → Prop} {a b : World} (h : Upd G a b) (o : Obj) : Upd G a (b.alloc o) :=
  h.trans (Upd.of_below (below_alloc b o) G) (fun _ _ hg => hg)

/-- Neighbours in a list. -/
def Adj (R : Nat → Nat → Prop) : List Nat → Prop
  | x :: y :: l => R x y ∧ Adj R (y :: l)
  | _ => True
theorem adj_app {R : Nat → Nat → Prop} {p : Nat} {Z : List Nat} : ∀ X : List Nat, Adj R (X ++ p :: Z) ↔ Adj R (X ++ [p]) ∧ Adj R (p :: Z)
  | [] => by simp [Adj]
  | [x] => by simp [Adj]
  | x :: y :: X => by
    have ih := adj_app (R := R) (p := p) (Z := Z) (y :: X)
    simp only [List.cons_append, Adj] at ih ⊢
    rw [ih, and_assoc]
theorem adj_imp {R R' : Nat → Nat → Prop} : ∀ l : List Nat, Adj R l → (∀ x ∈ l.dropLast, ∀ y ∈ l.tail, R x y → R' x y) → Adj R' l
  | [], _, _ => trivial
  | [_], _, _ => trivial
  | x :: y :: l, h, hi => by
    refine ⟨hi x (by simp) y (by simp) h.1, adj_imp (y :: l) h.2 fun a ha b hb => hi a ?_ b ?_⟩
    · simp only [List.dropLast_cons_cons, List.mem_cons]; exact .inr ha
    · exact List.mem_cons_of_mem _ hb
theorem last_split : ∀ (c : Nat) (l : List Nat), ∃ X p, c :: l = X ++ [p]
  | c, [] => ⟨[], c, rfl⟩
  | c, d :: l => by
    obtain ⟨X, p, h⟩ := last_split d l
    exact ⟨c :: X, p, by rw [h]; rfl⟩
theorem head_split : ∀ (l : List Nat) (c : Nat), ∃ q Y, l ++ [c] = q :: Y
  | [], c => ⟨c, [], rfl⟩
  | d :: l, c => ⟨d, l ++ [c], rfl⟩

/-- Two links that know each other. -/
def Lk (w : World) (x y : Nat) : Prop := w.cell? ⟨x, 2, none⟩ = some (ptr y) ∧ w.cell? ⟨y, 1, none⟩ = some (ptr x)
def Node (w : World) (p : Nat) : Prop := ∃ cur t, w.heap[p]? = some (.cells cur t) ∧ cur.size = 3 ∧ t ≠ 45
theorem Node.lt {w : World} {p : Nat} (h : Node w p) : p < w.heap.size := by
  obtain ⟨cur, t, h, _⟩ := h
  exact (Array.getElem?_eq_some_iff.1 h).1
theorem Node.cell {w : World} {p : Nat} (h : Node w p) (j : Nat) (hj : j < 3) : ∃ v, w.cell? ⟨p, j, none⟩ = some v := by
  obtain ⟨cur, t, h, hs, _⟩ := h
  exact ⟨cur[j]'(by omega), by rw [cell_of_row _ _ _ _ _ _ h, Array.getElem?_eq_getElem (by omega)]⟩
theorem Node.frozen {w : World} {p : Nat} (h : Node w p) (j : Nat) : w.frozen? ⟨p, j, none⟩ = false := by
  obtain ⟨cur, t, h, _⟩ := h
  exact frozen_of_row _ _ _ _ _ h
theorem Node.set {w : World} {p : Nat} (h : Node w p) (g o : Nat) (v : Value) : Node (w.setCell ⟨g, o, none⟩ v) p := by
  obtain ⟨cur, t, h, hs, ht⟩ := h
  by_cases e : p = g
  · subst e
    exact ⟨cur.setIfInBounds o v, t, heap_setCell_same w p o cur t v h, by simpa using hs, ht⟩
  · exact ⟨cur, t, by rw [Below.heap_setCell _ _ _ _ e]; exact h, hs, ht⟩
theorem Node.keep {w w' : World} {p : Nat} (h : Node w p) (hk : w'.heap[p]? = w.heap[p]?) : Node w' p := by
  obtain ⟨cur, t, h, hs, ht⟩ := h
  exact ⟨cur, t, by rw [hk]; exact h, hs, ht⟩

/-- The links' neighbourhood when one is cut out. -/
theorem links_cut {w : World} {c g : Nat} {A B : List Nat} (h : Adj (Lk w) (c :: ((A ++ g :: B) ++ [c]))) (hn : (c :: (A ++ g :: B)).Nodup) :
    ∃ p q, p ∈ c :: A ∧ q ∈ B ++ [c] ∧ w.cell? ⟨g, 1, none⟩ = some (ptr p) ∧ w.cell? ⟨g, 2, none⟩ = some (ptr q) ∧ p ≠ g ∧ q ≠ g ∧
      ∀ w', (∀ a, a ≠ ⟨p, 2, none⟩ → a ≠ ⟨q, 1, none⟩ → w'.cell? a = w.cell? a) → w'.cell? ⟨p, 2, none⟩ = some (ptr q) → w'.cell? ⟨q, 1, none⟩ = some (ptr p) → Adj (Lk w') (c :: ((A ++ B) ++ [c])) := by
  obtain ⟨X, p, hX⟩ := last_split c A
  obtain ⟨q, Y, hY⟩ := head_split B c
  have e1 : c :: ((A ++ g :: B) ++ [c]) = X ++ p :: (g :: q :: Y) := by
    rw [← hY]
    calc c :: ((A ++ g :: B) ++ [c]) = (c :: A) ++ g :: (B ++ [c]) := by simp
      _ = _ := by rw [hX]; simp
  have e2 : c :: ((A ++ B) ++ [c]) = X ++ p :: (q :: Y) := by
    rw [← hY]
    calc c :: ((A ++ B) ++ [c]) = (c :: A) ++ (B ++ [c]) := by simp
      _ = _ := by rw [hX]; simp
  rw [e1, adj_app] at h
  obtain ⟨h1, h2, h3, h4⟩ := h
  have hp : p ∈ c :: A := by rw [hX]; simp
  have hq : q ∈ B ++ [c] := by rw [hY]; simp
  simp only [List.nodup_cons, List.nodup_append, List.mem_append, List.mem_cons, not_or] at hn
  obtain ⟨⟨hcA, hcg, hcB⟩, hnA, ⟨hgB, hnB⟩, hAB⟩ := hn
  have hgA : g ∉ A := fun hg => hAB g hg g (.inl rfl) rfl
  have hpg : p ≠ g := by
    rintro rfl
    rcases List.mem_cons.1 hp with e | e
    · exact hcg e.symm
    · exact hgA e
  have hqg : q ≠ g := by
    rintro rfl
    rcases List.mem_append.1 hq with e | e
    · exact hgB e
    · rw [List.mem_singleton] at e; exact hcg e.symm
  refine ⟨p, q, hp, hq, h2.2, h3.1, hpg, hqg, fun w' hw hp' hq' => ?_⟩
  rw [e2, adj_app]
  have hXn : (X ++ [p]).Nodup := by rw [← hX]; exact List.nodup_cons.2 ⟨hcA, hnA⟩
  have hYn : (q :: Y).Nodup := by
    rw [← hY]
    exact List.nodup_append.2 ⟨hnB, by simp, fun a ha b hb => by rintro rfl; rw [List.mem_singleton] at hb; subst hb; exact hcB ha⟩
  refine ⟨adj_imp _ h1 fun x hx y hy hl => ?_, ⟨hp', hq'⟩, adj_imp _ h4 fun x hx y hy hl => ?_⟩
  · rw [List.dropLast_concat] at hx
    rw [← hX] at hy
    have hyA : y ∈ A := hy
    have h5 : x ≠ p := fun e => by
      have := (List.nodup_append.1 hXn).2.2 x hx p (by simp)
      exact this e
    have h6 : y ≠ q := fun e => by
      subst e
      rcases List.mem_append.1 hq with e | e
      · exact hAB y hyA y (.inr e) rfl
      · rw [List.mem_singleton] at e; subst e; exact hcA hyA
    exact ⟨by rw [hw _ (at_ne (.inl h5)) (at_ne (.inr (by decide)))]; exact hl.1, by rw [hw _ (at_ne (.inr (by decide))) (at_ne (.inl h6))]; exact hl.2⟩
  · rw [← hY, List.dropLast_concat] at hx
    have hyY : y ∈ Y := hy
    have h5 : x ≠ p := fun e => by
      subst e
      rcases List.mem_cons.1 hp with e | e
      · subst e; exact hcB hx
      · exact hAB x e x (.inr hx) rfl
    have h6 : y ≠ q := fun e => by
      subst e
      exact (List.nodup_cons.1 hYn).1 hyY
    exact ⟨by rw [hw _ (at_ne (.inl h5)) (at_ne (.inr (by decide)))]; exact hl.1, by rw [hw _ (at_ne (.inr (by decide))) (at_ne (.inl h6))]; exact hl.2⟩
/-- .. and when one is put behind all. -/
theorem links_push {w : World} {c : Nat} {A : List Nat} (h : Adj (Lk w) (c :: (A ++ [c]))) (hn : (c :: A).Nodup) :
    ∃ p, p ∈ c :: A ∧ w.cell? ⟨c, 1, none⟩ = some (ptr p) ∧
      ∀ w' l, l ∉ c :: A → (∀ x ∈ c :: A, ∀ j, (⟨x, j, none⟩ : Addr) ≠ ⟨p, 2, none⟩ → (⟨x, j, none⟩ : Addr) ≠ ⟨c, 1, none⟩ → w'.cell? ⟨x, j, none⟩ = w.cell? ⟨x, j, none⟩) → w'.cell? ⟨p, 2, none⟩ = some (ptr l) → w'.cell? ⟨c, 1, none⟩ = some (ptr l) →
        w'.cell? ⟨l, 1, none⟩ = some (ptr p) → w'.cell? ⟨l, 2, none⟩ = some (ptr c) → Adj (Lk w') (c :: ((A ++ [l]) ++ [c])) := by
  obtain ⟨X, p, hX⟩ := last_split c A
  have e1 : c :: (A ++ [c]) = X ++ p :: [c] := by
    calc c :: (A ++ [c]) = (c :: A) ++ [c] := by simp
      _ = _ := by rw [hX]; simp
  rw [e1, adj_app] at h
  obtain ⟨h1, h2, _⟩ := h
  have hp : p ∈ c :: A := by rw [hX]; simp
  refine ⟨p, hp, h2.2, fun w' l hl hw hp' hc' hl1 hl2 => ?_⟩
  have e2 : c :: ((A ++ [l]) ++ [c]) = X ++ p :: [l, c] := by
    calc c :: ((A ++ [l]) ++ [c]) = (c :: A) ++ [l, c] := by simp
      _ = _ := by rw [hX]; simp
  have hXn : (X ++ [p]).Nodup := by rw [← hX]; exact hn
  rw [e2, adj_app]
  refine ⟨adj_imp _ h1 fun x hx y hy hlk => ?_, ⟨hp', hl1⟩, ⟨hl2, hc'⟩, trivial⟩
  rw [List.dropLast_concat] at hx
  have hxm : x ∈ c :: A := by rw [hX]; exact List.mem_append_left _ hx
  rw [← hX] at hy
  have hyA : y ∈ A := hy
  have h5 : x ≠ p := fun e => (List.nodup_append.1 hXn).2.2 x hx p (by simp) e
  have h6 : y ≠ c := fun e => (List.nodup_cons.1 hn).1 (e ▸ hyA)
  exact ⟨by rw [hw x hxm 2 (at_ne (.inl h5)) (at_ne (.inr (by decide)))]; exact hlk.1, by rw [hw y (List.mem_cons_of_mem _ hyA) 1 (at_ne (.inr (by decide))) (at_ne (.inl h6))]; exact hlk.2⟩
end Go.Proofs.Ytbbdbcgmeffchaa
