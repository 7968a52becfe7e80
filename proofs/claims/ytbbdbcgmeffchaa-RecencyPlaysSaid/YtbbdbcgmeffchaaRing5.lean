/- The walks of a row's own calls: New, Has, Len, Drop, Touch. -/
import Derived.Test.YtbbdbcgmeffchaaRing4
namespace Go.Proofs.Ytbbdbcgmeffchaa
open Go.RowKit
set_option linter.unusedSimpArgs false

section
variable {ops : Array Oper} {rest : List Oper} {o : Oper} {a : Act} {W : World} {Q : Exit → Act → World → Prop}
theorem look_run {W : World} {m : Nat} {ps : List (Nat × Int)} {b : Int} (h : MapAt W m ps) (hw : wf64 b) (v : Value) (hv : (∃ g, (g, b) ∈ ps ∧ v = ptr g) ∨ ((∀ p ∈ ps, p.2 ≠ b) ∧ v = .pointer none)) :
    (Instr.lookup 43 (.map (some m)) (.int .i64 b) false).run Try.prog W = .ok v W := by
  obtain ⟨D, ho, hm⟩ := h
  obtain ⟨u, us, hrun, hR⟩ := ho.lookup keyed Try.underlying43 (zero46 W) (show Rp (.pointer none) = some (.nil, []) from rfl) (key_of hw)
  rcases hv with ⟨g, hg, rfl⟩ | ⟨hn, rfl⟩
  · rw [hm.look _ hg] at hR
    rw [hrun, Rp_ptr hR]
  · rw [Maps.atKey_of_not_has (by rw [hm.has b, List.any_eq_false]; intro p hp; simpa using hn p hp)] at hR
    rw [hrun, Rp_nil hR]
theorem wl_look (hg : o.guard = none) (mo xo : Operand) (hop : o.op = Op.lookup 43 mo xo false) (m : Nat) (ps : List (Nat × Int)) (b : Int) (hm : a.eval mo = .map (some m)) (hmap : MapAt W m ps) (hx : a.eval xo = .int .i64 b) (hw : wf64 b) (v : Value)
    (hv : (∃ g, (g, b) ∈ ps ∧ v = ptr g) ∨ ((∀ p ∈ ps, p.2 ≠ b) ∧ v = .pointer none)) (hK : wpList Try.prog ops Q rest (a.put o.dst v) W) : wpList Try.prog ops Q (o :: rest) a W := by
  refine wpList_plain hg fun K' hK' => ?_
  unfold Oper.wp
  simp [execOp, hop, hm, hx, look_run hmap hw v hv, Result.andThen]
  exact hK' _ _ hK
theorem wl_del (hg : o.guard = none) (mo xo : Operand) (hop : o.op = Op.call { callee := Callee.builtin Builtin.delete, args := #[mo, xo], argTypes := #[43, 3] }) (m g : Nat) (A B : List (Nat × Int)) (b : Int) (hm : a.eval mo = .map (some m)) (hmap : MapAt W m (A ++ (g, b) :: B)) (hx : a.eval xo = .int .i64 b) (hw : wf64 b) (hb : ∀ p ∈ A ++ B, p.2 ≠ b)
    (hK : ∀ w', MapAt w' m (A ++ B) → W.grownBy w' (some m) → wpList Try.prog ops Q rest (a.put o.dst (.tuple #[])) w') : wpList Try.prog ops Q (o :: rest) a W := by
  obtain ⟨D, ho, hmo⟩ := hmap
  refine wpList_delete_own W hg mo xo 43 3 hop 46 keyed Try.underlying43 Rp m _ D hm ho (.int .i64 b) (key b) hx (key_of hw) ?_
  intro w' h1 h2
  have h3 := hmo.del (ho.tidy keyed) hb
  exact hK w' ⟨_, h3.size ▸ tight h1, h3⟩ h2.grown
theorem wl_put (hg : o.guard = none) (mo xo vo : Operand) (hop : o.op = Op.mapUpdate 43 mo xo vo) (m g : Nat) (ps : List (Nat × Int)) (b : Int) (hm : a.eval mo = .map (some m)) (hmap : MapAt W m ps) (hn : ps.length ≤ 1000) (hx : a.eval xo = .int .i64 b) (hv : a.eval vo = ptr g) (hw : wf64 b) (hb : ∀ p ∈ ps, p.2 ≠ b)
    (hK : ∀ w', MapAt w' m (ps ++ [(g, b)]) → W.grownBy w' (some m) → wpList Try.prog ops Q rest (a.put o.dst undef) w') : wpList Try.prog ops Q (o :: rest) a W := by
  obtain ⟨D, ho, hmo⟩ := hmap
  refine wpList_mapUpdate_own W hg mo xo vo 43 hop 3 46 keyed Try.underlying43 Rp m _ D hm ho (by unfold maxLen; omega) (.int .i64 b) (ptr g) (key b) hx hv (key_of hw) (.lit (.int .i64 g)) [] rfl ?_
  intro w' h1 h2
  have h3 := hmo.put (g := g) (ho.tidy keyed) hw hb
  exact hK w' ⟨_, h3.size ▸ tight h1, h3⟩ h2
theorem wl_len (hg : o.guard = none) (mo : Operand) (hop : o.op = Op.call { callee := Callee.builtin Builtin.len, args := #[mo], argTypes := #[43] }) (m : Nat) (ps : List (Nat × Int)) (hm : a.eval mo = .map (some m)) (hmap : MapAt W m ps)
    (hK : wpList Try.prog ops Q rest (a.put o.dst (.int .i64 ps.length)) W) : wpList Try.prog ops Q (o :: rest) a W := by
  obtain ⟨D, ho, hmo⟩ := hmap
  refine wpList_len_own W hg mo 43 hop 3 46 Try.underlying43 Rp m _ D hm ho ?_
  rw [hmo.size]
  exact hK
end
theorem RowAt.cells {w : World} {base r c m : Nat} {ps : List (Nat × Int)} {F : Nat → Prop} (h : RowAt w base r c m ps F) : w.cell? ⟨r, 0, none⟩ = some (ptr c) ∧ w.cell? ⟨r, 1, none⟩ = some (.map (some m)) :=
  ⟨by rw [cell_of_row _ _ _ _ _ _ h.row]; rfl, by rw [cell_of_row _ _ _ _ _ _ h.row]; rfl⟩
theorem mem_of {ps : List (Nat × Int)} {b : Int} (h : b ∈ bsOf ps) : ∃ g, (g, b) ∈ ps := by
  obtain ⟨p, hp, rfl⟩ := List.mem_map.1 h
  exact ⟨p.1, hp⟩
theorem not_mem_of {ps : List (Nat × Int)} {b : Int} (h : b ∉ bsOf ps) : ∀ p ∈ ps, p.2 ≠ b := fun _ hp e => h (e ▸ List.mem_map_of_mem hp)

theorem has_any (w : World) (base r : Nat) (bs : List Int) (F : Nat → Prop) (b : Int) (h : Row w base r bs F) (hw : wf64 b) :
    Calls Try.prog 12 #[ptr r, .int .i64 b] w fun e w' => e = .returned (.bool (bs.contains b)) ∧ w = w' := by
  obtain ⟨c, m, ps, h, rfl⟩ := h
  obtain ⟨hc0, hc1⟩ := h.cells
  have hmap := h.map
  by_cases hb : b ∈ bsOf ps
  · obtain ⟨g, hg⟩ := mem_of hb
    rw [show (bsOf ps).contains b = true by simpa using hb]
    clear h hb
    go_enter Try.func12, Try.ntmps12
    go_wp2_with (at_lookup; refine wl_look rfl _ _ rfl m ps b rfl hmap rfl hw (ptr g) (.inl ⟨g, hg, rfl⟩) ?_; go_frame)
    exact ret_tmp rfl _ rfl rfl ⟨rfl, rfl⟩
  · have hn := not_mem_of hb
    rw [show (bsOf ps).contains b = false by simpa using hb]
    clear h hb
    go_enter Try.func12, Try.ntmps12
    go_wp2_with (at_lookup; refine wl_look rfl _ _ rfl m ps b rfl hmap rfl hw (.pointer none) (.inr ⟨hn, rfl⟩) ?_; go_frame)
    exact ret_tmp rfl _ rfl rfl ⟨rfl, rfl⟩
theorem len_any (w : World) (base r : Nat) (bs : List Int) (F : Nat → Prop) (h : Row w base r bs F) :
    Calls Try.prog 14 #[ptr r] w fun e w' => e = .returned (.int .i64 bs.length) ∧ w = w' := by
  obtain ⟨c, m, ps, h, rfl⟩ := h
  obtain ⟨hc0, hc1⟩ := h.cells
  have hmap := h.map
  rw [show (bsOf ps).length = ps.length by simp [bsOf]]
  clear h
  go_enter Try.func14, Try.ntmps14
  go_wp2_with (at_len; refine wl_len rfl _ rfl m ps rfl hmap ?_; go_frame)
  exact ret_tmp rfl _ rfl rfl ⟨rfl, rfl⟩
set_option maxHeartbeats 1000000 in
theorem drop_any (w : World) (base r : Nat) (bs : List Int) (F : Nat → Prop) (b : Int) (h : Row w base r bs F) (hw : wf64 b) :
    Calls Try.prog 16 #[ptr r, .int .i64 b] w fun e w' => e = .returned (.bool (bs.contains b)) ∧ Row w' base r (bs.filter (· != b)) F ∧ Upd F w w' := by
  obtain ⟨c, m, ps, h, rfl⟩ := h
  obtain ⟨hc0, hc1⟩ := h.cells
  have hmap := h.map
  by_cases hb : b ∈ bsOf ps
  · obtain ⟨g, hg⟩ := mem_of hb
    rw [show (bsOf ps).contains b = true by simpa using hb]
    obtain ⟨A, B, rfl⟩ := List.append_of_mem hg
    have hbn := h.bnd
    have hne : ∀ p ∈ A ++ B, p.2 ≠ b := by
      intro p hp e
      rw [show bsOf (A ++ (g, b) :: B) = bsOf A ++ b :: bsOf B by simp [bsOf], List.nodup_append] at hbn
      rcases List.mem_append.1 hp with hp | hp
      · exact hbn.2.2 p.2 (List.mem_map_of_mem hp) b List.mem_cons_self e
      · exact (List.nodup_cons.1 hbn.2.1).1 (e ▸ List.mem_map_of_mem hp)
    have hfil : (bsOf (A ++ (g, b) :: B)).filter (· != b) = bsOf (A ++ B) := by
      rw [show bsOf (A ++ (g, b) :: B) = bsOf A ++ b :: bsOf B by simp [bsOf], List.filter_append, List.filter_cons]
      have h0 : (b != b) = false := by simp
      rw [h0, if_neg (by decide), ← List.filter_append, show bsOf A ++ bsOf B = bsOf (A ++ B) by simp [bsOf]]
      rw [List.filter_eq_self]
      intro x hx
      obtain ⟨p, hp, rfl⟩ := List.mem_map.1 hx
      simpa using hne p hp
    rw [hfil]
    obtain ⟨p, q, x, y, h1, h2, h3, h4, f3, f4, hp, hq, hclose⟩ := h.cut
    clear h hb hfil hbn
    go_enter Try.func16, Try.ntmps16
    go_wp2_with (at_lookup; refine wl_look rfl _ _ rfl m _ b rfl hmap rfl hw (ptr g) (.inl ⟨g, hg, rfl⟩) ?_; go_frame)
    refine (cut_any g p q x y w h1 h2 h3 h4 f3 f4 hp hq).mono ?_
    rintro e w1 ⟨rfl, hw1⟩
    obtain ⟨u1, hr1, hm1, hs1, hclose⟩ := hclose w1 hw1
    have hc1' : w1.cell? ⟨r, 1, none⟩ = some (.map (some m)) := by rw [cell_of_row _ _ _ _ _ _ hr1]; rfl
    clear hw1 h1 h2 h3 h4 f3 f4 hmap hc0 hc1
    go_wp2_with (at_delete; refine wl_del rfl _ _ rfl m g A B b rfl hm1 rfl hw hne ?_; intro w2 hm2 hg2; go_frame)
    obtain ⟨r2, u2⟩ := hclose w2 hm2 hg2
    exact ret_tmp rfl _ rfl rfl ⟨rfl, ⟨c, m, _, r2, rfl⟩, u2⟩
  · have hn := not_mem_of hb
    rw [show (bsOf ps).contains b = false by simpa using hb]
    have hfil : (bsOf ps).filter (· != b) = bsOf ps := by
      rw [List.filter_eq_self]
      intro x hx
      have : x ≠ b := fun e => hb (e ▸ hx)
      simpa using this
    rw [hfil]
    go_enter Try.func16, Try.ntmps16
    go_wp2_with (at_lookup; refine wl_look rfl _ _ rfl m ps b rfl hmap rfl hw (.pointer none) (.inr ⟨hn, rfl⟩) ?_; go_frame)
    exact ret_tmp rfl _ rfl rfl ⟨rfl, ⟨c, m, ps, h, rfl⟩, Upd.refl _ _⟩
set_option maxHeartbeats 1000000 in
theorem touch_any (w : World) (base r : Nat) (bs : List Int) (F : Nat → Prop) (b : Int) (h : Row w base r bs F) (hw : wf64 b) (hn : bs.length ≤ 1000) :
    Calls Try.prog 10 #[ptr r, .int .i64 b] w fun e w' => e = .returned (.tuple #[]) ∧ (∃ F', Row w' base r (bs.filter (· != b) ++ [b]) F' ∧ ∀ k, F' k → F k ∨ w.heap.size ≤ k) ∧ Upd F w w' := by
  have hn2 : (bs.filter (· != b)).length ≤ 1000 := Nat.le_trans (List.length_filter_le _ _) hn
  go_enter Try.func10, Try.ntmps10
  go_wp2_with fail
  refine (drop_any w base r bs F b h hw).mono ?_
  rintro e w1 ⟨rfl, h1, u1⟩
  clear h
  generalize hbs : bs.filter (· != b) = cs at *
  have hnb : b ∉ cs := by rw [← hbs]; simp
  have HB := Lib.hid hbs
  clear hbs
  go_wp2_with fail
  obtain ⟨c, m, ps, hr, hps⟩ := h1
  have hr' : RowAt w1.drew base r c m ps F := hr.keep (Nat.le_refl _) (fun _ _ => rfl)
  have u1' := u1.drew
  clear hr u1
  have hS0 := hr'.cells
  refine Reg.region_ord (S := fun w' => w'.cell? ⟨r, 0, none⟩ = some (ptr c) ∧ w'.cell? ⟨r, 1, none⟩ = some (.map (some m))) [(0, 1), (1, 1), (2, 1), (3, 1), (4, 1), (5, 1), (6, 1), (7, 1), (8, 1), (9, 1), (10, 0), (11, 0)] (by kernel_rfl) (by kernel_rfl) (by decide) (by kernel_rfl) (fun _ _ _ _ _ h => h) ?_
  generalize w1.drew = W at *
  refine Reg.ord_move rfl _ rfl rfl hS0 ?_; simp only [Act.put, Act.eval, List.setIfInBounds_toArray, List.set_cons_succ, List.set_cons_zero, Array.getD_eq_getD_getElem?, List.getElem?_toArray, List.getElem?_cons_succ, List.getElem?_cons_zero, Option.getD_some]
  refine Reg.ord_val rfl rfl hS0 (ptr r) (fun w' _ => by go_simp) ?_; simp only [Act.put, Act.eval, List.setIfInBounds_toArray, List.set_cons_succ, List.set_cons_zero, Array.getD_eq_getD_getElem?, List.getElem?_toArray, List.getElem?_cons_succ, List.getElem?_cons_zero, Option.getD_some]
  refine Reg.ord_val rfl rfl hS0 (.pointer (some ⟨r, 1, none⟩)) (fun w' _ => by go_simp) ?_; simp only [Act.put, Act.eval, List.setIfInBounds_toArray, List.set_cons_succ, List.set_cons_zero, Array.getD_eq_getD_getElem?, List.getElem?_toArray, List.getElem?_cons_succ, List.getElem?_cons_zero, Option.getD_some]
  refine Reg.ord_val rfl rfl hS0 (.map (some m)) (fun w' h => run_ld agg43 _ rfl (by simp [Act.eval]) h.2) ?_; simp only [Act.put, Act.eval, List.setIfInBounds_toArray, List.set_cons_succ, List.set_cons_zero, Array.getD_eq_getD_getElem?, List.getElem?_toArray, List.getElem?_cons_succ, List.getElem?_cons_zero, Option.getD_some]
  refine Reg.ord_move rfl _ rfl rfl hS0 ?_; simp only [Act.put, Act.eval, List.setIfInBounds_toArray, List.set_cons_succ, List.set_cons_zero, Array.getD_eq_getD_getElem?, List.getElem?_toArray, List.getElem?_cons_succ, List.getElem?_cons_zero, Option.getD_some]
  refine Reg.ord_move rfl _ rfl rfl hS0 ?_; simp only [Act.put, Act.eval, List.setIfInBounds_toArray, List.set_cons_succ, List.set_cons_zero, Array.getD_eq_getD_getElem?, List.getElem?_toArray, List.getElem?_cons_succ, List.getElem?_cons_zero, Option.getD_some]
  refine Reg.ord_val rfl rfl hS0 (ptr r) (fun w' _ => by go_simp) ?_; simp only [Act.put, Act.eval, List.setIfInBounds_toArray, List.set_cons_succ, List.set_cons_zero, Array.getD_eq_getD_getElem?, List.getElem?_toArray, List.getElem?_cons_succ, List.getElem?_cons_zero, Option.getD_some]
  refine Reg.ord_val rfl rfl hS0 (ptr r) (fun w' _ => by go_simp) ?_; simp only [Act.put, Act.eval, List.setIfInBounds_toArray, List.set_cons_succ, List.set_cons_zero, Array.getD_eq_getD_getElem?, List.getElem?_toArray, List.getElem?_cons_succ, List.getElem?_cons_zero, Option.getD_some]
  refine Reg.ord_val rfl rfl hS0 (ptr c) (fun w' h => run_ld agg41 _ rfl (by simp [Act.eval]) h.1) ?_; simp only [Act.put, Act.eval, List.setIfInBounds_toArray, List.set_cons_succ, List.set_cons_zero, Array.getD_eq_getD_getElem?, List.getElem?_toArray, List.getElem?_cons_succ, List.getElem?_cons_zero, Option.getD_some]
  refine Reg.ord_move rfl _ rfl rfl hS0 ?_; simp only [Act.put, Act.eval, List.setIfInBounds_toArray, List.set_cons_succ, List.set_cons_zero, Array.getD_eq_getD_getElem?, List.getElem?_toArray, List.getElem?_cons_succ, List.getElem?_cons_zero, Option.getD_some]
  have hnp : ∀ p ∈ ps, p.2 ≠ b := by rw [← hps] at hnb; exact not_mem_of hnb
  obtain ⟨p, x, h1, h3, f3, f4, hclose⟩ := hr'.push hnp hw
  refine Reg.ord_call rfl rfl 25 #[ptr c, .int .i64 b] (by go_simp) (push_any c p b x W h1 h3 f3 f4) (fun W2 hW2 => ?_)
  obtain ⟨u2, hr2, hm2, hclose⟩ := hclose W2 hW2
  have hS2 : W2.cell? ⟨r, 0, none⟩ = some (ptr c) ∧ W2.cell? ⟨r, 1, none⟩ = some (.map (some m)) := ⟨by rw [cell_of_row _ _ _ _ _ _ hr2]; rfl, by rw [cell_of_row _ _ _ _ _ _ hr2]; rfl⟩
  refine ⟨hS2, ?_⟩
  clear hW2 h1 h3 f3 f4 hS0
  simp only [Act.put, Act.eval, List.setIfInBounds_toArray, List.set_cons_succ, List.set_cons_zero, Array.getD_eq_getD_getElem?, List.getElem?_toArray, List.getElem?_cons_succ, List.getElem?_cons_zero, Option.getD_some]
  refine Reg.ord_step rfl ?_
  refine wl_put rfl _ _ _ rfl m W.heap.size ps b (by simp [Act.eval]) hm2 (by rw [← hps] at hn2; simpa [bsOf] using hn2) (by simp [Act.eval]) (by simp [Act.eval]) hw hnp ?_
  intro W3 hm3 hg3
  obtain ⟨r3, u3⟩ := hclose W3 hm3 hg3
  refine wpList_nil ⟨r3.cells, ?_⟩
  simp only [Act.put, Act.eval, List.setIfInBounds_toArray, List.set_cons_succ, List.set_cons_zero, Array.getD_eq_getD_getElem?, List.getElem?_toArray, List.getElem?_cons_succ, List.getElem?_cons_zero, Option.getD_some]
  refine Reg.ord_nil ?_
  refine bodyPost_end (by simp [results, Try.results10, go_sem]) rfl ⟨rfl, ⟨_, ⟨c, m, _, r3, by rw [HB.out, ← hps]; simp [bsOf]⟩, fun k hk => ?_⟩, u1'.trans u3 fun _ _ h => h⟩
  rcases hk with hk | hk
  · exact .inl hk
  · have := u1'.size
    exact .inr (by omega)
theorem new_row (w : World) : ∃ F, Row (((w.alloc (.cells #[.int .i64 0, ptr w.heap.size, ptr w.heap.size] 51)).alloc (.map #[] 0)).alloc (.cells #[ptr w.heap.size, .map (some (w.heap.size + 1))] 45)).drew w.heap.size (w.heap.size + 1 + 1) [] F ∧ Below w.heap.size w (((w.alloc (.cells #[.int .i64 0, ptr w.heap.size, ptr w.heap.size] 51)).alloc (.map #[] 0)).alloc (.cells #[ptr w.heap.size, .map (some (w.heap.size + 1))] 45)).drew := by
  have a1 := heap_alloc_new w (.cells #[.int .i64 0, ptr w.heap.size, ptr w.heap.size] 51)
  have b1 := below_alloc w (.cells #[.int .i64 0, ptr w.heap.size, ptr w.heap.size] 51)
  have z1 : (w.alloc (.cells #[.int .i64 0, ptr w.heap.size, ptr w.heap.size] 51)).heap.size = w.heap.size + 1 := by simp
  generalize w.alloc (.cells #[.int .i64 0, ptr w.heap.size, ptr w.heap.size] 51) = w1 at *
  have m2 := mapAt_made w1
  have b2 := below_alloc w1 (.map #[] 0)
  have z2 : (w1.alloc (.map #[] 0)).heap.size = w.heap.size + 1 + 1 := by simp [z1]
  rw [z1] at m2
  generalize w1.alloc (.map #[] 0) = w2 at *
  have a3 := heap_alloc_new w2 (.cells #[ptr w.heap.size, .map (some (w.heap.size + 1))] 45)
  have b3 := below_alloc w2 (.cells #[ptr w.heap.size, .map (some (w.heap.size + 1))] 45)
  have z3 : (w2.alloc (.cells #[ptr w.heap.size, .map (some (w.heap.size + 1))] 45)).heap.size = w.heap.size + 1 + 1 + 1 := by simp [z2]
  rw [z2] at a3
  generalize w2.alloc (.cells #[ptr w.heap.size, .map (some (w.heap.size + 1))] 45) = w3 at *
  have h3 : w3.heap[w.heap.size]? = some (.cells #[.int .i64 0, ptr w.heap.size, ptr w.heap.size] 51) := by rw [b3.block _ (by omega), b2.block _ (by omega)]; exact a1
  have hm : MapAt w3 (w.heap.size + 1) [] := m2.keep (b3.block _ (by omega))
  have hc : ∀ j, w3.cell? ⟨w.heap.size, j, none⟩ = (#[.int .i64 0, ptr w.heap.size, ptr w.heap.size] : Array Value)[j]? := fun j => cell_of_row _ _ _ _ _ _ h3
  refine ⟨fun k => w.heap.size ≤ k ∧ k < w3.heap.size, ⟨w.heap.size, w.heap.size + 1, [], ⟨a3, fun x hx => ?_, ⟨⟨hc 2, hc 1⟩, trivial⟩, fun p hp => absurd hp List.not_mem_nil, by simp [gsOf], by simp [bsOf], fun p hp => absurd hp List.not_mem_nil, hm, ⟨by omega, by omega, by omega, fun p hp => absurd hp List.not_mem_nil⟩, fun k hk => hk⟩, rfl⟩, ?_⟩
  · have hx' : x = w.heap.size := by simpa [gsOf] using hx
    subst hx'
    exact ⟨_, _, h3, rfl, by decide⟩
  · exact ((b1.trans (b2.mono (by omega))).trans (b3.mono (by omega))).drew
set_option maxHeartbeats 1000000 in
theorem new_any (w : World) :
    Calls Try.prog 9 #[] w fun e w' => ∃ r F, e = .returned (ptr r) ∧ Row w' w.heap.size r [] F ∧ Below w.heap.size w w' := by
  have hmm := @run_makeMap Try.prog
  go_enter Try.func9, Try.ntmps9
  go_wp2_with fail
  refine (made_any w).mono ?_
  rintro e w1 ⟨rfl, hw1⟩
  go_wp2_with fail
  obtain ⟨F, h1, h2⟩ := new_row w
  exact ret_tmp rfl _ rfl rfl ⟨_, F, rfl, h1, h2⟩
end Go.Proofs.Ytbbdbcgmeffchaa
