/- What cutting a link out, and pushing one, do to a row. Plain facts on the heap; no walk. -/
import Derived.Test.YtbbdbcgmeffchaaRing3
namespace Go.Proofs.Ytbbdbcgmeffchaa
open Go.RowKit
set_option linter.unusedSimpArgs false

theorem grown_upd {G : Nat → Prop} {w w1 w2 : World} {m : Nat} (h : Upd G w w1) (hg : w1.grownBy w2 (some m)) (hm : G m) : Upd G w w2 :=
  h.trans (G' := fun k => k = m) ⟨hg.os, hg.tape, hg.output, hg.size, fun k hk hn => hg.block k hk (fun e => hn (by simpa using e))⟩ (fun k _ e => e ▸ hm)
theorem row_ne {w : World} {r m : Nat} {c : Nat} {ps : List (Nat × Int)} (hr : w.heap[r]? = some (.cells #[ptr c, .map (some m)] 45)) (hm : MapAt w m ps) : r ≠ m := by
  obtain ⟨D, ⟨es, clock, hb, _⟩, _⟩ := hm
  rintro rfl
  rw [hb] at hr
  cases hr
theorem node_row {w : World} {r m : Nat} {c x : Nat} (hr : w.heap[r]? = some (.cells #[ptr c, .map (some m)] 45)) (hx : Node w x) : r ≠ x := by
  obtain ⟨cur, t, hc, _, ht⟩ := hx
  rintro rfl
  rw [hc] at hr
  simp at hr
  exact ht hr.2
/-- From a world in which all but the map has been turned to one in which the map has been, too. -/
theorem row_close {w1 w2 : World} {base r c m : Nat} {ps ps' : List (Nat × Int)} {F : Nat → Prop} (hr : w1.heap[r]? = some (.cells #[ptr c, .map (some m)] 45)) (hmap : MapAt w1 m ps') (hnodes : ∀ x ∈ c :: gsOf ps, Node w1 x)
    (hlinks : Adj (Lk w1) (c :: (gsOf ps ++ [c]))) (hvals : ∀ p ∈ ps, w1.cell? ⟨p.1, 0, none⟩ = some (.int .i64 p.2)) (hnd : (c :: gsOf ps).Nodup) (hbn : (bsOf ps).Nodup) (hwf : ∀ p ∈ ps, wf64 p.2)
    (hfoot : F r ∧ F c ∧ F m ∧ ∀ p ∈ ps, F p.1) (hlow : ∀ k, F k → base ≤ k ∧ k < w1.heap.size) (hmap2 : MapAt w2 m ps) (hg : w1.grownBy w2 (some m)) : RowAt w2 base r c m ps F := by
  have hk : ∀ x, Node w1 x → w2.heap[x]? = w1.heap[x]? := fun x hx => hg.block x hx.lt (fun e => hmap.ne hx (by simpa using e))
  have hc : ∀ x, Node w1 x → ∀ j, w2.cell? ⟨x, j, none⟩ = w1.cell? ⟨x, j, none⟩ := fun x hx j => World.cell?_of_block (hk x hx)
  have hmem : ∀ z ∈ c :: (gsOf ps ++ [c]), z ∈ c :: gsOf ps := fun z hz => by
    rcases List.mem_cons.1 hz with rfl | hz
    · exact List.mem_cons_self
    · rcases List.mem_append.1 hz with hz | hz
      · exact List.mem_cons_of_mem _ hz
      · rw [List.mem_singleton] at hz; subst hz; exact List.mem_cons_self
  refine ⟨by rw [hg.block r (Array.getElem?_eq_some_iff.1 hr).1 (fun e => row_ne hr hmap (by simpa using e))]; exact hr, fun x hx => (hnodes x hx).keep (hk x (hnodes x hx)), ?_, fun p hp => ?_, hnd, hbn, hwf, hmap2, hfoot,
    fun k hF => ⟨(hlow k hF).1, Nat.lt_of_lt_of_le (hlow k hF).2 hg.size⟩⟩
  · exact adj_imp' _ hlinks fun x hx y hy hl => ⟨by rw [hc x (hnodes x (hmem x hx))]; exact hl.1, by rw [hc y (hnodes y (hmem y hy))]; exact hl.2⟩
  · rw [hc p.1 (hnodes _ (List.mem_cons_of_mem _ (List.mem_map_of_mem hp)))]
    exact hvals p hp
theorem RowAt.cut {w : World} {base r c m g : Nat} {b : Int} {A B : List (Nat × Int)} {F : Nat → Prop} (h : RowAt w base r c m (A ++ (g, b) :: B) F) :
    ∃ p q x y, w.cell? ⟨g, 1, none⟩ = some (ptr p) ∧ w.cell? ⟨g, 2, none⟩ = some (ptr q) ∧ w.cell? ⟨p, 2, none⟩ = some x ∧ w.cell? ⟨q, 1, none⟩ = some y ∧ w.frozen? ⟨p, 2, none⟩ = false ∧ w.frozen? ⟨q, 1, none⟩ = false ∧ p ≠ g ∧ q ≠ g ∧
      ∀ w1, w1 = (w.drew.setCell ⟨p, 2, none⟩ (ptr q)).setCell ⟨q, 1, none⟩ (ptr p) → Upd F w w1 ∧ w1.heap[r]? = some (.cells #[ptr c, .map (some m)] 45) ∧ MapAt w1 m (A ++ (g, b) :: B) ∧ w1.heap.size = w.heap.size ∧
        ∀ w2, MapAt w2 m (A ++ B) → w1.grownBy w2 (some m) → RowAt w2 base r c m (A ++ B) F ∧ Upd F w w2 := by
  have eg : gsOf (A ++ (g, b) :: B) = gsOf A ++ g :: gsOf B := by simp [gsOf]
  have eb : bsOf (A ++ (g, b) :: B) = bsOf A ++ b :: bsOf B := by simp [bsOf]
  have eg2 : gsOf (A ++ B) = gsOf A ++ gsOf B := by simp [gsOf]
  have eb2 : bsOf (A ++ B) = bsOf A ++ bsOf B := by simp [bsOf]
  have hl := h.links
  have hn := h.nodup
  have hno := h.nodes
  rw [eg] at hl hn hno
  obtain ⟨p, q, hp, hq, h1, h2, hpg, hqg, hadj⟩ := links_cut hl hn
  have hfp : F p := by
    rcases List.mem_cons.1 hp with rfl | hp
    · exact h.foot.2.1
    · obtain ⟨z, hz, rfl⟩ := List.mem_map.1 hp
      exact h.foot.2.2.2 z (List.mem_append_left _ hz)
  have hfq : F q := by
    rcases List.mem_append.1 hq with hq | hq
    · obtain ⟨z, hz, rfl⟩ := List.mem_map.1 hq
      exact h.foot.2.2.2 z (List.mem_append_right _ (List.mem_cons_of_mem _ hz))
    · rw [List.mem_singleton] at hq; subst hq; exact h.foot.2.1
  have np : Node w p := hno p (by
    rcases List.mem_cons.1 hp with rfl | hp
    · exact List.mem_cons_self
    · exact List.mem_cons_of_mem _ (List.mem_append_left _ hp))
  have nq : Node w q := hno q (by
    rcases List.mem_append.1 hq with hq | hq
    · exact List.mem_cons_of_mem _ (List.mem_append_right _ (List.mem_cons_of_mem _ hq))
    · rw [List.mem_singleton] at hq; subst hq; exact List.mem_cons_self)
  obtain ⟨x, hx⟩ := np.cell 2 (by decide)
  obtain ⟨y, hy⟩ := nq.cell 1 (by decide)
  refine ⟨p, q, x, y, h1, h2, hx, hy, np.frozen 2, nq.frozen 1, hpg, hqg, fun w1 hw1 => ?_⟩
  have hcell : ∀ a, a ≠ ⟨p, 2, none⟩ → a ≠ ⟨q, 1, none⟩ → w1.cell? a = w.cell? a := fun a ha hb => by
    rw [hw1, cell_other hb.symm, cell_other ha.symm]; rfl
  have hu : Upd F w w1 := by rw [hw1]; exact ((Upd.refl F w).drew.setCell _ _ _ hfp).setCell _ _ _ hfq
  have hr : w1.heap[r]? = some (.cells #[ptr c, .map (some m)] 45) := by
    rw [hw1, Below.heap_setCell _ _ _ _ (node_row h.row nq), Below.heap_setCell _ _ _ _ (node_row h.row np)]
    exact h.row
  have hm1 : MapAt w1 m (A ++ (g, b) :: B) := h.map.keep (by
    rw [hw1, Below.heap_setCell _ _ _ _ (Ne.symm (h.map.ne nq)), Below.heap_setCell _ _ _ _ (Ne.symm (h.map.ne np))]; rfl)
  have hnw : ∀ z, Node w z → Node w1 z := fun z hz => by rw [hw1]; exact (Node.set (Node.set hz _ _ _) _ _ _)
  have hsz : w1.heap.size = w.heap.size := by rw [hw1, World.size_setCell, World.size_setCell]; rfl
  refine ⟨hu, hr, hm1, hsz, fun w2 hm2 hg => ?_⟩
  have hsub : ∀ z, z ∈ A ++ B → z ∈ A ++ (g, b) :: B := fun z hz => by
    rcases List.mem_append.1 hz with hz | hz
    · exact List.mem_append_left _ hz
    · exact List.mem_append_right _ (List.mem_cons_of_mem _ hz)
  refine ⟨row_close hr hm1 (fun z hz => hnw z (hno z ?_)) ?_ (fun z hz => ?_) ?_ ?_ (fun z hz => h.wf z (hsub z hz)) ⟨h.foot.1, h.foot.2.1, h.foot.2.2.1, fun z hz => h.foot.2.2.2 z (hsub z hz)⟩ (fun k hF => by rw [hsz]; exact h.low k hF) hm2 hg, grown_upd hu hg h.foot.2.2.1⟩
  · rw [eg2] at hz
    rcases List.mem_cons.1 hz with rfl | hz
    · exact List.mem_cons_self
    · rcases List.mem_append.1 hz with hz | hz
      · exact List.mem_cons_of_mem _ (List.mem_append_left _ hz)
      · exact List.mem_cons_of_mem _ (List.mem_append_right _ (List.mem_cons_of_mem _ hz))
  · rw [eg2]
    refine hadj w1 hcell ?_ ?_
    · rw [hw1, cell_other (at_ne (.inr (by decide)))]
      exact World.cell?_setCell_same _ _ _ (show w.drew.cell? _ = _ from hx)
    · rw [hw1]
      obtain ⟨y', hy'⟩ := cell?_setCell_some (p := ⟨p, 2, none⟩) (x := ptr q) (show w.drew.cell? _ = _ from hy)
      exact World.cell?_setCell_same _ _ _ hy'
  · rw [hcell _ (at_ne (.inr (by decide))) (at_ne (.inr (by decide)))]
    exact h.vals z (hsub z hz)
  · rw [eg2]
    refine hn.sublist (List.Sublist.cons_cons _ ?_)
    exact List.Sublist.append (List.Sublist.refl _) (List.sublist_cons_self _ _)
  · rw [eb2]
    have := h.bnd
    rw [eb] at this
    exact this.sublist (List.Sublist.append (List.Sublist.refl _) (List.sublist_cons_self _ _))
theorem RowAt.push {w : World} {base r c m : Nat} {b : Int} {ps : List (Nat × Int)} {F : Nat → Prop} (h : RowAt w base r c m ps F) (hb : ∀ p ∈ ps, p.2 ≠ b) (hw : wf64 b) :
    ∃ p x, w.cell? ⟨c, 1, none⟩ = some (ptr p) ∧ w.cell? ⟨p, 2, none⟩ = some x ∧ w.frozen? ⟨p, 2, none⟩ = false ∧ w.frozen? ⟨c, 1, none⟩ = false ∧
      ∀ w1, w1 = ((w.alloc (.cells #[.int .i64 b, ptr p, ptr c] 49)).drew.drew.setCell ⟨p, 2, none⟩ (ptr w.heap.size)).setCell ⟨c, 1, none⟩ (ptr w.heap.size) → Upd F w w1 ∧ w1.heap[r]? = some (.cells #[ptr c, .map (some m)] 45) ∧ MapAt w1 m ps ∧
        ∀ w2, MapAt w2 m (ps ++ [(w.heap.size, b)]) → w1.grownBy w2 (some m) → RowAt w2 base r c m (ps ++ [(w.heap.size, b)]) (fun k => F k ∨ k = w.heap.size) ∧ Upd F w w2 := by
  obtain ⟨p, hp, h1, hadj⟩ := links_push h.links h.nodup
  have np : Node w p := h.nodes p hp
  have nc : Node w c := h.nodes c List.mem_cons_self
  have hfp : F p := by
    rcases List.mem_cons.1 hp with rfl | hp
    · exact h.foot.2.1
    · obtain ⟨z, hz, rfl⟩ := List.mem_map.1 hp
      exact h.foot.2.2.2 z hz
  have hl : ∀ z ∈ c :: gsOf ps, z < w.heap.size := fun z hz => (h.nodes z hz).lt
  have hlm : w.heap.size ∉ c :: gsOf ps := fun hm => by have := hl _ hm; omega
  obtain ⟨x, hx⟩ := np.cell 2 (by decide)
  obtain ⟨y, hy⟩ := nc.cell 1 (by decide)
  refine ⟨p, x, h1, hx, np.frozen 2, nc.frozen 1, fun w1 hw1 => ?_⟩
  have hnew := heap_alloc_new w (.cells #[.int .i64 b, ptr p, ptr c] 49)
  have hbl := below_alloc w (.cells #[.int .i64 b, ptr p, ptr c] 49)
  have npl := np.lt
  have ncl := nc.lt
  -- cells
  have hcell : ∀ z ∈ c :: gsOf ps, ∀ j, (⟨z, j, none⟩ : Addr) ≠ ⟨p, 2, none⟩ → (⟨z, j, none⟩ : Addr) ≠ ⟨c, 1, none⟩ → w1.cell? ⟨z, j, none⟩ = w.cell? ⟨z, j, none⟩ := fun z hz j ha hb => by
    rw [hw1, cell_other hb.symm, cell_other ha.symm]
    exact hbl.cell (p := ⟨z, j, none⟩) (hl z hz)
  have hu : Upd F w w1 := by
    rw [hw1]
    exact ((((Upd.refl F w).alloc _).drew.drew).setCell _ _ _ hfp).setCell _ _ _ h.foot.2.1
  have hheap : ∀ k, k ≠ p → k ≠ c → w1.heap[k]? = (w.alloc (.cells #[.int .i64 b, ptr p, ptr c] 49)).heap[k]? := fun k h1 h2 => by
    rw [hw1, Below.heap_setCell _ _ _ _ h2, Below.heap_setCell _ _ _ _ h1]; rfl
  have hr : w1.heap[r]? = some (.cells #[ptr c, .map (some m)] 45) := by
    rw [hheap r (node_row h.row np) (node_row h.row nc), hbl.block r (Array.getElem?_eq_some_iff.1 h.row).1]
    exact h.row
  have hm1 : MapAt w1 m ps := h.map.keep (by
    rw [hheap m (Ne.symm (h.map.ne np)) (Ne.symm (h.map.ne nc)), hbl.block m h.map.lt])
  have hsz : w1.heap.size = w.heap.size + 1 := by rw [hw1, World.size_setCell, World.size_setCell]; show (w.alloc _).heap.size = _; simp
  have hna : ∀ z, Node w z → Node w1 z := fun z hz => by
    rw [hw1]
    exact Node.set (Node.set (Node.keep (w := w) hz (hbl.block z hz.lt)) _ _ _) _ _ _
  have hnl : Node w1 w.heap.size := by
    rw [hw1]
    exact Node.set (Node.set ⟨_, _, hnew, rfl, by decide⟩ _ _ _) _ _ _
  have hcl : ∀ j v, (#[.int .i64 b, ptr p, ptr c] : Array Value)[j]? = some v → w1.cell? ⟨w.heap.size, j, none⟩ = some v := fun j v hv => by
    rw [hw1, cell_other (at_ne (.inl (by omega))), cell_other (at_ne (.inl (by omega)))]
    show (w.alloc _).cell? _ = _
    rw [cell_of_row _ _ _ _ _ _ hnew]; exact hv
  have hbase : base ≤ w.heap.size := by have := h.low r h.foot.1; omega
  refine ⟨hu, hr, hm1, fun w2 hm2 hg => ?_⟩
  have eg2 : gsOf (ps ++ [(w.heap.size, b)]) = gsOf ps ++ [w.heap.size] := by simp [gsOf]
  have eb2 : bsOf (ps ++ [(w.heap.size, b)]) = bsOf ps ++ [b] := by simp [bsOf]
  refine ⟨row_close (ps' := ps) hr hm1 (fun z hz => ?_) ?_ (fun z hz => ?_) ?_ ?_ (fun z hz => ?_) ⟨.inl h.foot.1, .inl h.foot.2.1, .inl h.foot.2.2.1, fun z hz => ?_⟩ (fun k hF => ?_) hm2 hg, grown_upd hu hg h.foot.2.2.1⟩
  · rw [eg2] at hz
    rcases List.mem_cons.1 hz with rfl | hz
    · exact hna _ nc
    · rcases List.mem_append.1 hz with hz | hz
      · exact hna z (h.nodes z (List.mem_cons_of_mem _ hz))
      · rw [List.mem_singleton] at hz; subst hz; exact hnl
  · rw [eg2]
    refine hadj w1 _ hlm hcell ?_ ?_ (hcl 1 _ rfl) (hcl 2 _ rfl)
    · rw [hw1, cell_other (at_ne (.inr (by decide)))]
      exact World.cell?_setCell_same _ _ _ (show (w.alloc _).cell? _ = _ from Below.at hbl hx)
    · rw [hw1]
      obtain ⟨y', hy'⟩ := cell?_setCell_some (w := (w.alloc (.cells #[.int .i64 b, ptr p, ptr c] 49)).drew.drew) (p := ⟨p, 2, none⟩) (x := ptr w.heap.size) (show (w.alloc _).cell? _ = _ from Below.at hbl hy)
      exact World.cell?_setCell_same _ _ _ hy'
  · rcases List.mem_append.1 hz with hz | hz
    · have hzm : z.1 ∈ c :: gsOf ps := List.mem_cons_of_mem _ (List.mem_map_of_mem hz)
      rw [hcell z.1 hzm 0 (at_ne (.inr (by decide))) (at_ne (.inr (by decide)))]
      exact h.vals z hz
    · rw [List.mem_singleton] at hz; subst hz
      exact hcl 0 _ rfl
  · rw [eg2]
    have := h.nodup
    rw [show c :: (gsOf ps ++ [w.heap.size]) = (c :: gsOf ps) ++ [w.heap.size] from rfl, List.nodup_append]
    exact ⟨this, by simp, fun a ha b hb => by rw [List.mem_singleton] at hb; subst hb; intro e; subst e; exact hlm ha⟩
  · rw [eb2, List.nodup_append]
    refine ⟨h.bnd, by simp, fun a ha d hd => ?_⟩
    rw [List.mem_singleton] at hd; subst hd
    obtain ⟨z, hz, rfl⟩ := List.mem_map.1 ha
    exact hb z hz
  · rcases List.mem_append.1 hz with hz | hz
    · exact h.wf z hz
    · rw [List.mem_singleton] at hz; subst hz; exact hw
  · rcases List.mem_append.1 hz with hz | hz
    · exact .inl (h.foot.2.2.2 z hz)
    · rw [List.mem_singleton] at hz; subst hz; exact .inr rfl
  · rw [hsz]
    rcases hF with hF | rfl
    · have := h.low k hF; omega
    · omega
end Go.Proofs.Ytbbdbcgmeffchaa
