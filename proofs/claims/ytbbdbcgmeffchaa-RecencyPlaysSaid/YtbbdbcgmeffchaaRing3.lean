/- A row in memory: a ring of links and a map of its places. Plain facts on the heap; no walk. -/
import Derived.Test.YtbbdbcgmeffchaaRing2
namespace Go.Proofs.Ytbbdbcgmeffchaa
open Go.RowKit
open Go.Maps (Keyed)
set_option linter.unusedSimpArgs false

def wf64 (b : Int) : Prop := (Lit.int .i64 b).wf = true
def key (b : Int) : Lit := .int .i64 b
/-- How a link reads: the number of its block. -/
def Rp : Value → Option (DataW Unit × List MemPlace)
  | .pointer none => some (.nil, [])
  | .pointer (some ⟨g, 0, none⟩) => some (.lit (.int .i64 g), [])
  | _ => none
theorem Rp_nil {v : Value} {ps : List MemPlace} (h : Rp v = some (.nil, ps)) : v = .pointer none := by
  unfold Rp at h
  split at h
  · rfl
  · simp at h
  · cases h
theorem Rp_ptr {v : Value} {ps : List MemPlace} {g : Nat} (h : Rp v = some (.lit (.int .i64 g), ps)) : v = ptr g := by
  unfold Rp at h
  split at h
  · simp at h
  · simp at h
    rw [Int.ofNat_inj.1 h.1]
  · cases h
theorem keyed : Keyed Try.prog 3 := Maps.int_keyed Try.underlying3
theorem key_of {b : Int} (h : wf64 b) : keyOf Try.prog 3 (.int .i64 b) = some (key b) := Maps.keyOf_int_mk Try.underlying3 h
theorem zero46 (w : World) : (zeroValue 46).run Try.prog w = .ok (.pointer none) w := by kernel_rfl
theorem key_ne {a b : Int} (h : a ≠ b) : key a ≠ key b := by
  unfold key
  intro e
  simp at e
  exact h e

/-- The datum of a map of these places. -/
structure MapOf (D : DataW Unit) (ps : List (Nat × Int)) : Prop where
  has : ∀ b, Maps.has D (key b) = ps.any (fun p => p.2 == b)
  look : ∀ p ∈ ps, ∀ z, D.atKey (key p.2) z = .lit (.int .i64 p.1)
  size : Maps.size D = ps.length
def MapAt (w : World) (m : Nat) (ps : List (Nat × Int)) : Prop := ∃ D, w.ownsMap Try.prog 3 Rp m ps.length D ∧ MapOf D ps
theorem tight {w : World} {m n : Nat} {D : DataW Unit} (h : w.ownsMap Try.prog 3 Rp m n D) : w.ownsMap Try.prog 3 Rp m (Maps.size D) D := by
  obtain ⟨es, clock, hb, F, hs, rfl⟩ := h
  exact ⟨es, clock, hb, F, by simp [Maps.size, length_sorted], rfl⟩
theorem mapAt_made (w : World) : MapAt (w.alloc (.map #[] 0)) w.heap.size [] :=
  ⟨.map [], World.ownsMap_made w _ _ _, ⟨fun _ => rfl, fun _ hp => absurd hp List.not_mem_nil, rfl⟩⟩
theorem MapAt.keep {w w' : World} {m : Nat} {ps : List (Nat × Int)} (h : MapAt w m ps) (hk : w'.heap[m]? = w.heap[m]?) : MapAt w' m ps := by
  obtain ⟨D, ⟨es, clock, hb, F, hs, hD⟩, hm⟩ := h
  exact ⟨D, ⟨es, clock, by rw [hk]; exact hb, F, hs, hD⟩, hm⟩
theorem MapAt.ne {w : World} {m p : Nat} {ps : List (Nat × Int)} (h : MapAt w m ps) (hp : Node w p) : p ≠ m := by
  obtain ⟨D, ⟨es, clock, hb, _⟩, _⟩ := h
  obtain ⟨cur, t, hc, _⟩ := hp
  rintro rfl
  rw [hb] at hc
  cases hc
theorem MapAt.lt {w : World} {m : Nat} {ps : List (Nat × Int)} (h : MapAt w m ps) : m < w.heap.size := by
  obtain ⟨D, ho, _⟩ := h
  exact ho.lt
theorem MapOf.del {D : DataW Unit} {A B : List (Nat × Int)} {g : Nat} {b : Int} (h : MapOf D (A ++ (g, b) :: B)) (ht : Maps.Tidy D) (hb : ∀ p ∈ A ++ B, p.2 ≠ b) : MapOf (D.del (key b)) (A ++ B) := by
  refine ⟨fun x => ?_, fun p hp z => ?_, ?_⟩
  · by_cases e : x = b
    · subst e
      rw [Maps.has_del_same]
      symm
      rw [List.any_eq_false]
      intro p hp
      simpa using hb p hp
    · rw [Maps.has_del_other (key_ne e), h.has x, List.any_append, List.any_append, List.any_cons]
      have : (((g, b) : Nat × Int).2 == x) = false := by simp [Ne.symm e]
      rw [this, Bool.false_or]
  · rw [Maps.atKey_del_other (key_ne (hb p hp))]
    refine h.look p ?_ z
    rcases List.mem_append.1 hp with h1 | h1
    · exact List.mem_append_left _ h1
    · exact List.mem_append_right _ (List.mem_cons_of_mem _ h1)
  · have h1 := Maps.size_del ht (k := key b)
    rw [h.has b] at h1
    have h2 : (A ++ (g, b) :: B).any (fun p => p.2 == b) = true := by simp
    rw [h2, if_pos rfl, h.size] at h1
    simp only [List.length_append, List.length_cons] at h1 ⊢
    omega
theorem MapOf.put {D : DataW Unit} {ps : List (Nat × Int)} {g : Nat} {b : Int} (h : MapOf D ps) (ht : Maps.Tidy D) (hw : wf64 b) (hb : ∀ p ∈ ps, p.2 ≠ b) : MapOf (D.put (key b) (.lit (.int .i64 g))) (ps ++ [(g, b)]) := by
  have hk : WideAt.IsKeyLit (key b) := keyed.key (key_of hw)
  have h0 : Maps.has D (key b) = false := by
    rw [h.has b, List.any_eq_false]
    intro p hp
    simpa using hb p hp
  refine ⟨fun x => ?_, fun p hp z => ?_, ?_⟩
  · by_cases e : x = b
    · subst e
      rw [Maps.has_put_same ht.isMap hk]
      simp
    · rw [Maps.has_put_other (key_ne e), h.has x, List.any_append]
      have : ([((g, b) : Nat × Int)].any fun p => p.2 == x) = false := by simp [Ne.symm e]
      rw [this, Bool.or_false]
  · rcases List.mem_append.1 hp with h1 | h1
    · rw [Maps.atKey_put_other (key_ne (hb p h1))]
      exact h.look p h1 z
    · rw [List.mem_singleton] at h1
      subst h1
      exact Maps.atKey_put_same ht.isMap hk _ _
  · rw [Maps.size_put ht, h0, if_neg (by decide), h.size]
    simp

abbrev gsOf (ps : List (Nat × Int)) : List Nat := ps.map (·.1)
abbrev bsOf (ps : List (Nat × Int)) : List Int := ps.map (·.2)
structure RowAt (w : World) (base r c m : Nat) (ps : List (Nat × Int)) (F : Nat → Prop) : Prop where
  row : w.heap[r]? = some (.cells #[ptr c, .map (some m)] 45)
  nodes : ∀ x ∈ c :: gsOf ps, Node w x
  links : Adj (Lk w) (c :: (gsOf ps ++ [c]))
  vals : ∀ p ∈ ps, w.cell? ⟨p.1, 0, none⟩ = some (.int .i64 p.2)
  nodup : (c :: gsOf ps).Nodup
  bnd : (bsOf ps).Nodup
  wf : ∀ p ∈ ps, wf64 p.2
  map : MapAt w m ps
  foot : F r ∧ F c ∧ F m ∧ ∀ p ∈ ps, F p.1
  low : ∀ k, F k → base ≤ k ∧ k < w.heap.size
def Row (w : World) (base r : Nat) (bs : List Int) (F : Nat → Prop) : Prop := ∃ c m ps, RowAt w base r c m ps F ∧ bsOf ps = bs
theorem adj_imp' {R R' : Nat → Nat → Prop} : ∀ l : List Nat, Adj R l → (∀ x ∈ l, ∀ y ∈ l, R x y → R' x y) → Adj R' l := fun l h hi =>
  adj_imp l h fun x hx y hy => hi x ((List.dropLast_sublist l).subset hx) y (List.mem_of_mem_tail hy)
theorem RowAt.keep {w w' : World} {base r c m : Nat} {ps : List (Nat × Int)} {F : Nat → Prop} (h : RowAt w base r c m ps F) (hs : w.heap.size ≤ w'.heap.size) (hk : ∀ k, F k → w'.heap[k]? = w.heap[k]?) : RowAt w' base r c m ps F := by
  have hn : ∀ x ∈ c :: gsOf ps, w'.heap[x]? = w.heap[x]? := fun x hx => by
    rcases List.mem_cons.1 hx with rfl | hx
    · exact hk _ h.foot.2.1
    · obtain ⟨p, hp, rfl⟩ := List.mem_map.1 hx
      exact hk _ (h.foot.2.2.2 p hp)
  have hc : ∀ x ∈ c :: gsOf ps, ∀ j, w'.cell? ⟨x, j, none⟩ = w.cell? ⟨x, j, none⟩ := fun x hx j => World.cell?_of_block (hn x hx)
  refine ⟨by rw [hk r h.foot.1]; exact h.row, fun x hx => (h.nodes x hx).keep (hn x hx), ?_, fun p hp => ?_, h.nodup, h.bnd, h.wf, h.map.keep (hk m h.foot.2.2.1), h.foot, fun k hF => ⟨(h.low k hF).1, Nat.lt_of_lt_of_le (h.low k hF).2 hs⟩⟩
  · refine adj_imp' _ h.links fun x hx y hy hl => ?_
    have hm : ∀ z ∈ c :: (gsOf ps ++ [c]), z ∈ c :: gsOf ps := fun z hz => by
      rcases List.mem_cons.1 hz with rfl | hz
      · exact List.mem_cons_self
      · rcases List.mem_append.1 hz with hz | hz
        · exact List.mem_cons_of_mem _ hz
        · rw [List.mem_singleton] at hz; subst hz; exact List.mem_cons_self
    exact ⟨by rw [hc x (hm x hx)]; exact hl.1, by rw [hc y (hm y hy)]; exact hl.2⟩
  · rw [hc p.1 (List.mem_cons_of_mem _ (List.mem_map_of_mem hp))]
    exact h.vals p hp
theorem Row.keep {w w' : World} {base r : Nat} {bs : List Int} {F : Nat → Prop} (h : Row w base r bs F) (hs : w.heap.size ≤ w'.heap.size) (hk : ∀ k, F k → w'.heap[k]? = w.heap[k]?) : Row w' base r bs F := by
  obtain ⟨c, m, ps, h, hb⟩ := h
  exact ⟨c, m, ps, h.keep hs hk, hb⟩
theorem Row.upd {w w' : World} {base r : Nat} {bs : List Int} {F G : Nat → Prop} (h : Row w base r bs F) (hu : Upd G w w') (hd : ∀ k, F k → ¬ G k) : Row w' base r bs F := by
  have hl : ∀ k, F k → k < w.heap.size := fun k hk => by
    obtain ⟨c, m, ps, h, _⟩ := h
    exact (h.low k hk).2
  exact h.keep hu.size fun k hF => hu.block k (hl k hF) (hd k hF)
theorem Row.step {w w' : World} {base r : Nat} {bs : List Int} {F : Nat → Prop} (h : Row w base r bs F) (hb : Below w.heap.size w w') : Row w' base r bs F :=
  h.upd (Upd.of_below hb fun _ => False) fun _ _ h => h
theorem Row.nodup {w : World} {base r : Nat} {bs : List Int} {F : Nat → Prop} (h : Row w base r bs F) : bs.Nodup := by
  obtain ⟨c, m, ps, h, rfl⟩ := h
  exact h.bnd
theorem Row.wf {w : World} {base r : Nat} {bs : List Int} {F : Nat → Prop} (h : Row w base r bs F) : ∀ b ∈ bs, wf64 b := by
  obtain ⟨c, m, ps, h, rfl⟩ := h
  intro b hb
  obtain ⟨p, hp, rfl⟩ := List.mem_map.1 hb
  exact h.wf p hp
theorem Row.low {w : World} {base r : Nat} {bs : List Int} {F : Nat → Prop} (h : Row w base r bs F) : ∀ k, F k → base ≤ k ∧ k < w.heap.size := by
  obtain ⟨c, m, ps, h, _⟩ := h
  exact h.low
end Go.Proofs.Ytbbdbcgmeffchaa
