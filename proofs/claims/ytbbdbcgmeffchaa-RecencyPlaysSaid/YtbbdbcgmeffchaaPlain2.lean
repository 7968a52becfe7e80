/- Plain facts on rows, going on: touched in turn, dropped from the front; no program. -/
import Derived.Test.YtbbdbcgmeffchaaPlain
namespace Go.Proofs.Ytbbdbcgmeffchaa
open Go.RowKit
set_option linter.unusedSimpArgs false

theorem filter_ne {l : List Int} {b : Int} (h : b ∉ l) : l.filter (· != b) = l := by
  rw [List.filter_eq_self]
  intro a ha
  have : a ≠ b := fun e => h (e ▸ ha)
  simpa using this
theorem filter_mid {X Y : List Int} {b : Int} (h : (X ++ b :: Y).Nodup) : (X ++ b :: Y).filter (· != b) = X ++ Y := by
  rw [List.nodup_append] at h
  obtain ⟨_, h2, h3⟩ := h
  rw [List.nodup_cons] at h2
  have hX : b ∉ X := fun hb => h3 b hb b (List.mem_cons_self) rfl
  rw [List.filter_append, List.filter_cons, filter_ne hX, filter_ne h2.1]
  simp
/-- Touched in turn: the first k of them stand behind the others. -/
def turned (bs : List Int) (k : Nat) : List Int := bs.drop k ++ bs.take k
theorem turned_nodup {bs : List Int} (h : bs.Nodup) (k : Nat) : (turned bs k).Nodup := by
  unfold turned
  have h1 : (bs.take k ++ bs.drop k).Nodup := by rw [List.take_append_drop]; exact h
  exact (List.perm_append_comm.nodup_iff).1 h1
theorem turned_succ {bs : List Int} (h : bs.Nodup) (k : Nat) (hk : k < bs.length) : touchF (turned bs k) bs[k] = turned bs (k + 1) := by
  have hn := turned_nodup h k
  unfold turned at *
  rw [List.drop_eq_getElem_cons hk, List.cons_append] at hn
  have := filter_mid (X := []) hn
  unfold touchF
  rw [List.drop_eq_getElem_cons hk, List.cons_append]
  rw [List.nil_append] at this
  rw [this, List.take_succ_eq_append_getElem hk, List.nil_append, List.append_assoc]
theorem turned_len (bs : List Int) (k : Nat) : (turned bs k).length = bs.length := by
  unfold turned
  simp only [List.length_append, List.length_drop, List.length_take]
  omega
theorem turned_all (bs : List Int) : turned bs bs.length = bs := by simp [turned]
theorem turned_zero (bs : List Int) : turned bs 0 = bs := by simp [turned]
theorem turned_mem {bs : List Int} {x : Int} (k : Nat) (h : x ∈ bs) : x ∈ turned bs k := by
  unfold turned
  rw [List.mem_append, ← List.mem_append]
  have : x ∈ bs.take k ++ bs.drop k := by rw [List.take_append_drop]; exact h
  rcases List.mem_append.1 this with h1 | h1
  · exact List.mem_append_right _ h1
  · exact List.mem_append_left _ h1
/-- Touched from the last to the first: those from k on stand turned round, behind the others. -/
def backed (bs : List Int) (k : Nat) : List Int := bs.take k ++ (bs.drop k).reverse
theorem backed_len (bs : List Int) (k : Nat) : (backed bs k).length = bs.length := by
  unfold backed
  simp only [List.length_append, List.length_drop, List.length_take, List.length_reverse]
  omega
theorem backed_nodup {bs : List Int} (h : bs.Nodup) (k : Nat) : (backed bs k).Nodup := by
  unfold backed
  have h1 : (bs.take k ++ bs.drop k).Nodup := by rw [List.take_append_drop]; exact h
  refine ((List.Perm.append_left _ (List.reverse_perm _)).nodup_iff).2 h1
theorem backed_pred {bs : List Int} (h : bs.Nodup) (k : Nat) (hk : k < bs.length) : touchF (backed bs (k + 1)) bs[k] = backed bs k := by
  have hn := backed_nodup h (k + 1)
  unfold backed at *
  rw [List.take_succ_eq_append_getElem hk, List.append_assoc, List.singleton_append] at hn
  have := filter_mid hn
  unfold touchF
  rw [List.take_succ_eq_append_getElem hk, List.append_assoc, List.singleton_append, this, List.drop_eq_getElem_cons hk, List.reverse_cons, List.append_assoc]
theorem backed_all (bs : List Int) : backed bs bs.length = bs := by simp [backed]
theorem backed_zero (bs : List Int) : backed bs 0 = bs.reverse := by simp [backed]
/-- The first of what is left is dropped. -/
theorem drop_succ {bs : List Int} (h : bs.Nodup) (k : Nat) (hk : k < bs.length) : (bs.drop k).filter (· != bs[k]) = bs.drop (k + 1) := by
  have hn : (bs.drop k).Nodup := h.sublist (List.drop_sublist _ _)
  rw [List.drop_eq_getElem_cons hk] at hn
  have := filter_mid (X := []) hn
  rw [List.nil_append] at this
  rw [List.drop_eq_getElem_cons hk, this, List.nil_append]
theorem drop_has {bs : List Int} (k : Nat) (hk : k < bs.length) : (bs.drop k).contains bs[k] = true := by
  have : bs[k] ∈ bs.drop k := by
    rw [List.drop_eq_getElem_cons hk]
    exact List.mem_cons_self
  simpa using this
theorem filter_take (l : List Int) (b : Int) (k : Nat) (h : k < l.length) : (l.take (k + 1)).filter (· != b) = (l.take k).filter (· != b) ++ (if l[k] = b then [] else [l[k]]) := by
  rw [List.take_succ_eq_append_getElem h, List.filter_append]
  by_cases e : l[k] = b
  · rw [if_pos e]; simp [e]
  · rw [if_neg e]; simp [e]
theorem filter_len (l : List Int) (b : Int) : decide ((l.filter (· != b)).length < l.length) = l.contains b := by
  by_cases e : b ∈ l
  · have : l.contains b = true := by simpa using e
    rw [this, decide_eq_true_eq]
    rcases Nat.lt_or_ge (l.filter (· != b)).length l.length with h1 | h1
    · exact h1
    · have h2 := List.length_filter_eq_length_iff.1 (Nat.le_antisymm (List.length_filter_le _ _) h1) b e
      simp at h2
  · have : l.contains b = false := by simpa using e
    rw [this, filter_ne e, decide_eq_false_iff_not]
    omega
theorem filter_hasnt (l : List Int) (b : Int) : (l.filter (· != b)).contains b = false := by
  simp
section
variable {ops : Array Oper} {rest : List Oper} {o : Oper} {a : Act} {W : World} {Q : Exit → Act → World → Prop}
theorem wl_bin (hw : Region.wanted o (yielded ops a.tmps) = true) (b : BinOp) (t t' : TypeId) (x y : Operand) (ho : o.op = .binOp b t x y t') (vx vy v : Value) (hrun : ∀ w, (binOp b t vx vy).run Try.prog w = .ok v w)
    (hx : a.eval x = vx) (hy : a.eval y = vy) (hne : b ≠ .eql ∧ b ≠ .neq) (hK : wpList Try.prog ops Q rest (a.put o.dst v) W) : wpList Try.prog ops Q (o :: rest) a W := by
  refine wpList_want hw fun K hK' => ?_
  unfold Oper.wp execOp
  obtain ⟨h1, h2⟩ := hne
  cases b <;> first | exact absurd rfl h1 | exact absurd rfl h2 | (simp only [ho, hx, hy, Sem.run_bind, hrun, Result.andThen_ok, Sem.run_pure]; exact hK' _ _ hK)
end
theorem run_and7 (n : Int) : ∃ m : Nat, m ≤ 7 ∧ ∀ w, (binOp .and 3 (.int .i64 n) (.int .i64 7)).run Try.prog w = .ok (.int .i64 m) w := by
  refine ⟨(BitVec.ofInt 64 n &&& BitVec.ofInt 64 7).toNat, ?_, fun w => ?_⟩
  · rw [BitVec.toNat_and]
    exact Nat.and_le_right
  · have h : (BitVec.ofInt 64 n &&& BitVec.ofInt 64 7).toNat ≤ 7 := by
      rw [BitVec.toNat_and]
      exact Nat.and_le_right
    show Result.ok (Value.int .i64 (IntKind.i64.wrap ((BitVec.ofInt 64 n &&& BitVec.ofInt 64 7).toNat : Int))) w = _
    rw [IntWalk.i64_in _ (by omega)]
/-- The value's own memory is none of these blocks. -/
def Apart (F : Nat → Prop) (v : Value) : Prop := ∀ k, v.ownBlock = some k → ¬ F k
theorem OwnI.apart {w : World} {base : Nat} {v : Value} {l : List Int} {F : Nat → Prop} (h : OwnI w base v l) (hF : ∀ k, F k → k < base) : Apart F v := fun k hk hf => by
  have h1 := h.block k hk
  have h2 := hF k hf
  omega
theorem OwnI.touched {w w' : World} {B : Nat} {v : Value} {l : List Int} {F F' : Nat → Prop} (h : OwnI w B v l) (ha : Apart F v) (hu : Upd F w w') (hF : ∀ k, F' k → F k ∨ w.heap.size ≤ k) : OwnI w' B v l ∧ Apart F' v :=
  ⟨h.upd hu ha, fun k hk hf => by
    rcases hF k hf with h1 | h1
    · exact ha k hk h1
    · have := h.block k hk
      omega⟩
end Go.Proofs.Ytbbdbcgmeffchaa
