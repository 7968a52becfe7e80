/- Operations met one by one; a region whose order is open, walked in one order that the prover names. -/
import Derived.Test.YtbbdbcgmeffchaaRows
import Derived.WalkKit
import Derived.WalkLawsBesides
import Derived.Lib.Hide
import Derived.WalkSpells
import Derived.ChangeKeysEq
import Derived.Laws.Tables
import Derived.Laws.AppendOwnNone
import Derived.Maps.RangeWalk
import Derived.Maps.OwnSet
import Derived.Deep.RegionWith
import Derived.OrdersHeld
import Derived.IntWalk
namespace Go.Proofs.Ytbbdbcgmeffchaa
open Go.RowKit
set_option linter.unusedSimpArgs false
namespace Reg
section
variable {P : Program} {ops : Array Oper} {S : World → Prop} {Q : Exit → Act → World → Prop} {a : Act} {w : World}

def apartAt (ops : Array Oper) (i j : Nat) : Bool :=
  match ops[i]?, ops[j]? with
  | some x, some y => x.apart ops y
  | _, _ => false

/-- May the operations be met in this order? -/
def okOrd (ops : Array Oper) : Array Bool → List (Nat × Nat) → Bool
  | listed, [] => (Region.ready .any ops listed).isEmpty
  | listed, (i, 0) :: r => (Region.ready .any ops listed == [i]) && okOrd ops (listed.setIfInBounds i true) r
  | listed, (i, 1) :: r => Region.free .any ops listed i && (Region.ready .any ops listed).contains i && okOrd ops (listed.setIfInBounds i true) r
  | listed, (i, j + 2) :: r => (Region.ready .any ops listed == [i, j]) && (Region.ready .any ops (listed.setIfInBounds i true) == [j]) && (Region.ready .any ops (listed.setIfInBounds j true) == [i]) &&
      apartAt ops i j && decide (i ≠ j) && okOrd ops ((listed.setIfInBounds i true).setIfInBounds j true) r

/-- The walk in that order. -/
def wpOrd (P : Program) (ops : Array Oper) (S : World → Prop) (Q : Exit → Act → World → Prop) : List (Nat × Nat) → Act → World → Prop
  | [], a, w => Q .normal a w
  | (i, 0) :: r, a, w => wpOp P ops Q i (fun a' w' => S w' ∧ wpOrd P ops S Q r a' w') a w
  | (i, 1) :: r, a, w => ∃ o v, ops[i]? = some o ∧ YieldsIf P ops S o v a ∧ S w ∧ wpOrd P ops S Q r (a.put o.dst v) w
  | (i, j + 2) :: r, a, w => ∃ o o' v v', ops[i]? = some o ∧ ops[j]? = some o' ∧ YieldsIf P ops (fun w' => w' = w) o v a ∧ YieldsIf P ops (fun w' => w' = w) o' v' a ∧ S w ∧ wpOrd P ops S Q r ((a.put o.dst v).put o'.dst v') w

def steps : List (Nat × Nat) → Nat
  | [] => 0
  | (_, 0) :: r => steps r + 1
  | (_, 1) :: r => steps r + 1
  | (_, _ + 2) :: r => steps r + 2

theorem wpAnyH_of_ord (hs : Region.noSelect ops = true) (hQ : ∀ c a d v w, Q (.panic c) (a.put (some d) v) w → Q (.panic c) a w) : ∀ (ord : List (Nat × Nat)) (listed : Array Bool) (fuel : Nat) (a : Act) (w : World),
    steps ord ≤ fuel → okOrd ops listed ord = true → wpOrd P ops S Q ord a w → wpAnyH P .any ops Q S fuel listed a w
  | [], listed, fuel, a, w, _, hok, h => wpAnyH_done (by simpa [okOrd] using hok) h fuel
  | (i, 0) :: r, listed, 0, a, w, hl, _, _ => by simp [steps] at hl
  | (i, 1) :: r, listed, 0, a, w, hl, _, _ => by simp [steps] at hl
  | (i, j + 2) :: r, listed, 0, a, w, hl, _, _ => by simp [steps] at hl
  | (i, j + 2) :: r, listed, 1, a, w, hl, _, _ => by simp [steps] at hl
  | (i, 1) :: r, listed, fuel + 1, a, w, hl, hok, h => by
    simp only [okOrd, Bool.and_eq_true] at hok
    obtain ⟨o, v, ho, hy, hS, hr⟩ := h
    exact wpAnyH_take ho hs hok.1.1 hok.1.2 (fun c a w h => by cases hd : o.dst with | none => rw [hd] at h; exact h | some d => rw [hd] at h; exact hQ c a d v w h) hy hS (wpAnyH_of_ord hs hQ r _ fuel _ _ (by simpa [steps] using hl) hok.2 hr)
  | (i, 0) :: r, listed, fuel + 1, a, w, hl, hok, h => by
    simp only [okOrd, Bool.and_eq_true, beq_iff_eq] at hok
    refine wpAnyH_all hok.1 (by simp) fun j hj => ?_
    obtain rfl : j = i := by simpa using hj
    exact wpOp_mono (fun a' w' h' => ⟨h'.1, wpAnyH_of_ord hs hQ r _ fuel _ _ (by simpa [steps] using hl) hok.2 h'.2⟩) h
  | (i, j + 2) :: r, listed, fuel + 2, a, w, hl, hok, h => by
    simp only [okOrd, Bool.and_eq_true, beq_iff_eq, decide_eq_true_eq] at hok
    obtain ⟨⟨⟨⟨⟨h1, h2⟩, h3⟩, h4⟩, h5⟩, h6⟩ := hok
    obtain ⟨o, o', v, v', ho, ho', hy, hy', hS, hr⟩ := h
    have hap : o.apart ops o' = true := by unfold apartAt at h4; rw [ho, ho'] at h4; exact h4
    obtain ⟨p1, p2, p3⟩ := Oper.apart_spec hap
    have hin := wpAnyH_of_ord hs hQ r _ fuel _ _ (by simpa [steps] using hl) h6 hr
    have hn : ∀ (k : Nat) (x : Oper), ops[k]? = some x → ∀ cs b, x.op ≠ .select cs b := fun k x hx cs b => Region.noSelect_spec hs k x cs b hx
    refine wpAnyH_all h1 (by simp) fun k hk => ?_
    rcases List.mem_cons.1 hk with rfl | hk
    · refine hy.wpOp ho rfl ⟨hS, ?_⟩
      refine wpAnyH_all h2 (by simp) fun k hk => ?_
      obtain rfl : k = j := by simpa using hk
      exact (hy'.of_same (execOp_put o' (hn _ _ ho') a o.dst v p1) (wanted_put o' a o.dst v p1)).wpOp ho' rfl ⟨hS, hin⟩
    · obtain rfl : k = j := by simpa using hk
      refine hy'.wpOp ho' rfl ⟨hS, ?_⟩
      refine wpAnyH_all h3 (by simp) fun k' hk' => ?_
      obtain rfl : k' = i := by simpa using hk'
      refine (hy.of_same (execOp_put o (hn _ _ ho) a o'.dst v' p3) (wanted_put o a o'.dst v' p3)).wpOp ho rfl ⟨hS, ?_⟩
      rw [← Act.put_comm a v v' p2, Array.setIfInBounds_comm _ _ h5.symm]
      exact hin

theorem region_ord {id : Nat} {l : List Oper} (ord : List (Nat × Nat)) (hm : P.follows .mixedOrders = true) (hs : Region.noSelect l.toArray = true) (hlen : steps ord ≤ l.toArray.size)
    (hok : okOrd l.toArray (Array.replicate l.toArray.size false) ord = true) (hQ : ∀ c a d v w, Q (.panic c) (a.put (some d) v) w → Q (.panic c) a w)
    (h : wpOrd P l.toArray S Q ord a w.drew) : (Code.region id l.toArray true).wp P Q a w :=
  wp_region_held hm (wpAnyH_of_ord hs hQ ord _ _ _ _ hlen hok h)

/-- The element of a list. -/
def nth {α : Type} : List α → Nat → Option α
  | [], _ => none
  | x :: _, 0 => some x
  | _ :: l, n + 1 => nth l n
theorem nth_eq {α : Type} : ∀ (l : List α) (i : Nat), nth l i = l.toArray[i]?
  | [], _ => by simp [nth]
  | x :: _, 0 => by simp [nth]
  | _ :: l, n + 1 => by rw [nth, nth_eq l n]; simp
theorem ord_nil (h : Q .normal a w) : wpOrd P ops S Q [] a w := h

variable {l : List Oper} {i j : Nat} {o o' : Oper} {r : List (Nat × Nat)}
theorem ord_val (ho : nth l i = some o) (hw : Region.wanted o (yielded l.toArray a.tmps) = true) (hS : S w) (v : Value) (hy : ∀ w', S w' → (execOp a.eval o).run P w' = .ok (.value v) w')
    (h : wpOrd P l.toArray S Q r (a.put o.dst v) w) : wpOrd P l.toArray S Q ((i, 1) :: r) a w := ⟨o, v, (nth_eq l i).symm.trans ho, .inl ⟨hw, hy⟩, hS, h⟩
theorem ord_skip (ho : nth l i = some o) (hw : Region.wanted o (yielded l.toArray a.tmps) = false) (hS : S w)
    (h : wpOrd P l.toArray S Q r (a.put o.dst undef) w) : wpOrd P l.toArray S Q ((i, 1) :: r) a w := ⟨o, undef, (nth_eq l i).symm.trans ho, .inr ⟨hw, rfl⟩, hS, h⟩
theorem ord_move (ho : nth l i = some o) (x : Operand) (hop : o.op = .move x) (hw : Region.wanted o (yielded l.toArray a.tmps) = true) (hS : S w)
    (h : wpOrd P l.toArray S Q r (a.put o.dst (a.eval x)) w) : wpOrd P l.toArray S Q ((i, 1) :: r) a w :=
  ord_val ho hw hS (a.eval x) (fun w' _ => by unfold execOp; rw [hop]; rfl) h
theorem ord_assign (ho : nth l i = some o) (x : Operand) (hop : o.op = .assign x) (hw : Region.wanted o (yielded l.toArray a.tmps) = true) (hS : S w)
    (h : wpOrd P l.toArray S Q r (a.put o.dst (a.eval x)) w) : wpOrd P l.toArray S Q ((i, 1) :: r) a w :=
  ord_val ho hw hS (a.eval x) (fun w' _ => by unfold execOp; rw [hop]; rfl) h
theorem ord_pick (ho : nth l i = some o) (c x y : Operand) (hop : o.op = .pick c x y) (hw : Region.wanted o (yielded l.toArray a.tmps) = true) (hS : S w) (t : Bool) (hc : a.eval c = .bool t)
    (h : wpOrd P l.toArray S Q r (a.put o.dst (if t then a.eval x else a.eval y)) w) : wpOrd P l.toArray S Q ((i, 1) :: r) a w :=
  ord_val ho hw hS _ (fun w' _ => by unfold execOp; rw [hop]; simp only [hc]; cases t <;> rfl) h
/-- Two that only read the world at hand. -/
theorem ord_pair (ho : nth l i = some o) (ho' : nth l j = some o') (hw : Region.wanted o (yielded l.toArray a.tmps) = true) (hw' : Region.wanted o' (yielded l.toArray a.tmps) = true) (hS : S w) (v v' : Value)
    (hy : (execOp a.eval o).run P w = .ok (.value v) w) (hy' : (execOp a.eval o').run P w = .ok (.value v') w)
    (h : wpOrd P l.toArray S Q r ((a.put o.dst v).put o'.dst v') w) : wpOrd P l.toArray S Q ((i, j + 2) :: r) a w :=
  ⟨o, o', v, v', (nth_eq l i).symm.trans ho, (nth_eq l j).symm.trans ho', .inl ⟨hw, fun _ hw => by rw [hw]; exact hy⟩, .inl ⟨hw', fun _ hw => by rw [hw]; exact hy'⟩, hS, h⟩
theorem upon_then {K : Act → World → Prop} {Q' : Exit → Act → World → Prop} (h : o.wp P a w (wpList P ops (Exit.then K Q') []) (Exit.then K Q')) : o.wp P a w K Q' := by
  unfold Oper.wp at *
  generalize (execOp a.eval o).run P w = res at *
  cases res with
  | ok n w' =>
    cases n with
    | enter f args => exact Calls.mono h (fun e w'' he => by cases e <;> exact he)
    | value v => exact h
    | skip => exact h
    | defer d => exact h
    | row row args => exact Rows.mono h (fun _ _ he => he)
    | _ => exact h
  | halt x w' => cases x <;> exact h
/-- The only one that may come up: a step of the ordinary walk. -/
theorem ord_step (ho : nth l i = some o) (h : wpList P l.toArray (Exit.then (fun a' w' => S w' ∧ wpOrd P l.toArray S Q r a' w') Q) [o] a w) : wpOrd P l.toArray S Q ((i, 0) :: r) a w := by
  have ho' : l.toArray[i]? = some o := (nth_eq l i).symm.trans ho
  show wpOp P l.toArray Q i _ a w
  unfold wpOp
  simp only [ho']
  unfold wpList at h
  split at h
  · rename_i hw
    rw [if_pos hw]
    rcases h with h | h
    · exact .inl (upon_then h)
    · exact .inr h
  · rename_i hw
    rw [if_neg hw]
    exact h
/-- A call, by its contract. -/
theorem ord_call (ho : nth l i = some o) (hw : Region.wanted o (yielded l.toArray a.tmps) = true) (f : FuncId) (args : Array Value) (hop : (execOp a.eval o).run P w = .ok (.enter f args) w) {v : Value} {R : World → Prop}
    (hc : Calls P f args w fun e w' => e = .returned v ∧ R w') (h : ∀ w', R w' → S w' ∧ wpOrd P l.toArray S Q r (a.put o.dst v) w') : wpOrd P l.toArray S Q ((i, 0) :: r) a w := by
  have ho' : l.toArray[i]? = some o := (nth_eq l i).symm.trans ho
  show wpOp P l.toArray Q i _ a w
  unfold wpOp
  simp only [ho', hw, if_true]
  refine .inl ?_
  unfold Oper.wp
  rw [hop]
  exact hc.mono fun e w' he => by
    obtain ⟨rfl, hR⟩ := he
    exact h w' hR
end
end Reg

def Stop (p : Prop) : Prop := p
theorem stop {p : Prop} (h : Stop p) : p := h
theorem wpList_want {ops : Array Oper} {rest : List Oper} {o : Oper} {a : Act} {W : World} {Q : Exit → Act → World → Prop} (hw : Region.wanted o (yielded ops a.tmps) = true)
    (h : ∀ K : Act → World → Prop, (∀ a w, wpList Try.prog ops Q rest a w → K a w) → o.wp Try.prog a W K Q) : wpList Try.prog ops Q (o :: rest) a W :=
  wpList_step fun K hK => by rw [if_pos hw]; exact h K hK
theorem ret_tmp {fn : Func} {t : Tmp} {R : Ending → World → Prop} {a : Act} {W : World} (h : fn.results = #[.tmp t]) (v : Value) (hv : a.tmps.getD t undef = v) (hd : a.defers = []) (hR : R (.returned v) W) : bodyPost Try.prog fn R .ret a W :=
  bodyPost_ret (v := v) (by rw [results_tmp h, hv]) hd hR
theorem below_alloc (W : World) (o : Obj) : Below W.heap.size W (W.alloc o) := (Below.refl _ _).alloc (Nat.le_refl _) o
theorem Below.at {w w' : World} {a : Addr} {v : Value} (hb : Below w.heap.size w w') (h : w.cell? a = some v) : w'.cell? a = some v := by
  rw [hb.cell (World.block_lt_of_cell? _ _ h)]; exact h
theorem addr_add (b o n : Nat) : (⟨b, o, none⟩ : Addr).add n = ⟨b, o + n, none⟩ := by
  unfold Addr.add; split <;> simp_all
theorem ord_skip0 {P : Program} {l : List Oper} {S : World → Prop} {Q : Exit → Act → World → Prop} {a : Act} {w : World} {i : Nat} {o : Oper} {r : List (Nat × Nat)} (ho : Reg.nth l i = some o) (hw : Region.wanted o (yielded l.toArray a.tmps) = false) (hS : S w)
    (h : Reg.wpOrd P l.toArray S Q r (a.put o.dst undef) w) : Reg.wpOrd P l.toArray S Q ((i, 0) :: r) a w :=
  Reg.ord_step ho (wpList_step fun K hK => by rw [if_neg (by rw [hw]; exact Bool.false_ne_true)]; exact hK _ _ (wpList_nil ⟨hS, h⟩))
theorem ord_callx {P : Program} {l : List Oper} {S : World → Prop} {Q : Exit → Act → World → Prop} {a : Act} {w : World} {i : Nat} {o : Oper} {r : List (Nat × Nat)} (ho : Reg.nth l i = some o) (hw : Region.wanted o (yielded l.toArray a.tmps) = true) (f : FuncId) (args : Array Value) (hop : (execOp a.eval o).run P w = .ok (.enter f args) w) {R : Value → World → Prop}
    (hc : Calls P f args w fun e w' => ∃ v, e = .returned v ∧ R v w') (h : ∀ v w', R v w' → S w' ∧ Reg.wpOrd P l.toArray S Q r (a.put o.dst v) w') : Reg.wpOrd P l.toArray S Q ((i, 0) :: r) a w := by
  have ho' : l.toArray[i]? = some o := (Reg.nth_eq l i).symm.trans ho
  show wpOp P l.toArray Q i _ a w
  unfold wpOp
  simp only [ho', hw, if_true]
  refine .inl ?_
  unfold Oper.wp
  rw [hop]
  exact hc.mono fun e w' he => by
    obtain ⟨v, rfl, hR⟩ := he
    exact h v w' hR
section
variable {ops : Array Oper} {rest : List Oper} {o : Oper} {a : Act} {W : World} {Q : Exit → Act → World → Prop}
theorem run_st {t : TypeId} (hsz : ∀ w, (sizeOf t).run Try.prog w = .ok 1 w) (ad : Addr) (v old : Value) (hv : v.oneCell' = true) (w : World) (hc : w.cell? ad = some old) (hf : w.frozen? ad = false) : (storeVar t ad v).run Try.prog w = .ok () (w.setCell ad v) := by
  have hcs : v.cells = #[v] := by cases v <;> first | rfl | simp [Value.oneCell'] at hv
  simp [storeVar, hcs, hsz, storeCells, run_store Try.prog _ _ v _ hv, Addr.add_zero', hc, hf, Result.andThen]
theorem wl_st (hw : Region.wanted o (yielded ops a.tmps) = true) {t : TypeId} (hsz : ∀ w, (sizeOf t).run Try.prog w = .ok 1 w) (x y : Operand) (ho : o.op = .store t x y) (ad : Addr) (v old : Value) (hx : a.eval x = .pointer (some ad)) (hy : a.eval y = v) (hv : v.oneCell' = true)
    (hc : W.cell? ad = some old) (hf : W.frozen? ad = false) (hK : wpList Try.prog ops Q rest (a.put o.dst undef) (W.setCell ad v)) : wpList Try.prog ops Q (o :: rest) a W := by
  refine wpList_want hw fun K hK' => ?_
  unfold Oper.wp execOp
  simp only [ho, hx, hy, Instr.storeAt, Instr.sureAddr, Sem.run_bind, Sem.run_pure, Result.andThen_ok, run_st hsz ad v old hv W hc hf]
  exact hK' _ _ hK
theorem run_ld {t : TypeId} (hagg : ∀ w, (isAgg t).run Try.prog w = .ok false w) {w : World} {ad : Addr} {v : Value} {ρ : Operand → Value} {o : Oper} (x : Operand) (ho : o.op = .load t x) (hx : ρ x = .pointer (some ad)) (hc : w.cell? ad = some v) :
    (execOp ρ o).run Try.prog w = .ok (.value v) w := by
  unfold execOp
  simp [ho, hx, go_sem, Instr.loadAt, Instr.sureAddr, loadVar, Sem.run_bind, hagg, hc]
end
theorem size46 (w : World) : (sizeOf 46).run Try.prog w = .ok 1 w := by kernel_rfl
theorem agg46 (w : World) : (isAgg 46).run Try.prog w = .ok false w := by kernel_rfl
theorem agg43 (w : World) : (isAgg 43).run Try.prog w = .ok false w := by kernel_rfl
theorem agg41 (w : World) : (isAgg 41).run Try.prog w = .ok false w := by kernel_rfl
theorem agg3 (w : World) : (isAgg 3).run Try.prog w = .ok false w := by kernel_rfl
theorem agg22 (w : World) : (isAgg 22).run Try.prog w = .ok false w := by kernel_rfl
/-- A pointer to the head of a block. -/
abbrev ptr (g : Nat) : Value := .pointer (some ⟨g, 0, none⟩)
end Go.Proofs.Ytbbdbcgmeffchaa
