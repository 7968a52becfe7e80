/- Sectors as functions of 64 bytes, their exclusive or, how they lie in memory: plain facts, no walk. -/
import Derived.Test.YtpmhhfphbackdaaRows
import Derived.WalkKit
import Derived.WalkSpells
import Derived.WalkLawsBesides
import Derived.Lib.Hide
import Derived.ChangeKeysEq
import Derived.Laws.Tables
namespace Go.Proofs.Ytpmhhfphbackdaa
open Go.RowKit

/-- A sector: 64 bytes. -/
abbrev Sec := Fin 64 → UInt8
def byteV (n : UInt8) : Value := .int .u8 n.toNat
def secC (s : Sec) : Array Value := Array.ofFn fun j => byteV (s j)
def secV (s : Sec) : Value := .agg (secC s)
def zeroS : Sec := fun _ => 0
def sxor (x y : Sec) : Sec := fun j => x j ^^^ y j
def mix (k : Nat) (x y : Sec) : Sec := fun j => if j.val < k then x j ^^^ y j else x j
/-- The parity of a list, from a first one on. -/
def parFrom (s : Sec) (l : List Sec) : Sec := l.foldl sxor s
def par (l : List Sec) : Sec := parFrom zeroS l

theorem secC_size (s : Sec) : (secC s).size = 64 := by simp [secC]
theorem secC_get (s : Sec) (k : Nat) (h : k < 64) : (secC s)[k]? = some (byteV (s ⟨k, h⟩)) := by simp [secC, h]
theorem secC_one (s : Sec) : ((secC s).all fun x => x.oneCell') = true := by
  rw [Array.all_eq_true]
  intro i hi
  simp only [secC, Array.getElem_ofFn]
  rfl
theorem secC_inj {x y : Sec} (h : secC x = secC y) : x = y := by
  funext j
  have h1 := secC_get x j.val j.isLt
  rw [h, secC_get y j.val j.isLt] at h1
  simp [byteV] at h1
  exact (UInt8.toNat_inj.1 (by omega))
theorem mix_zero (x y : Sec) : mix 0 x y = x := by funext j; simp [mix]
theorem mix_all (x y : Sec) : mix 64 x y = sxor x y := by funext j; simp [mix, sxor]
theorem mix_at (k : Nat) (h : k < 64) (x y : Sec) : mix k x y ⟨k, h⟩ = x ⟨k, h⟩ := by simp [mix]
theorem mix_succ (k : Nat) (h : k < 64) (x y : Sec) :
    (secC (mix k x y)).setIfInBounds k (byteV (x ⟨k, h⟩ ^^^ y ⟨k, h⟩)) = secC (mix (k + 1) x y) := by
  apply Array.ext
  · simp [secC]
  · intro i h1 h2
    have h3 : i < 64 := by simpa [secC] using h2
    rw [Array.getElem_setIfInBounds (by simp [secC]; exact h3)]
    by_cases hk : k = i
    · subst hk; simp [secC, mix]
    · simp [hk, secC, mix]
      congr 1
      by_cases h4 : i < k
      · rw [if_pos h4, if_pos (by omega)]
      · rw [if_neg h4, if_neg (by omega)]
theorem xor_u8 (a b : UInt8) : bits .xor .u8 (a.toNat : Int) (b.toNat : Int) = ((a ^^^ b).toNat : Int) := by
  rw [u8_xor_nat _ _ a.toNat_lt b.toNat_lt, UInt8.toNat_xor]

/-- What is read at such a place: sectors, one behind the other. -/
def SecsAt (w : World) (b o : Nat) (ss : List Sec) : Prop :=
  ∀ i (hi : i < ss.length) j (hj : j < 64), w.cell? ⟨b, o + i * 64 + j, none⟩ = some (byteV (ss[i] ⟨j, hj⟩))
/-- A slice value that reads as these sectors. -/
def IsSecs (w : World) (v : Value) (ss : List Sec) : Prop :=
  (∃ a c, v = .slice a 0 c ∧ (a = none → c = 0) ∧ ss = []) ∨ (∃ b o c, v = .slice (some ⟨b, o, none⟩) ss.length c ∧ ss ≠ [] ∧ ss.length ≤ maxLen ∧ ss.length ≤ c ∧ SecsAt w b o ss)

theorem par_snoc (l : List Sec) (s : Sec) : par (l ++ [s]) = sxor (par l) s := by simp [par, parFrom]
theorem par_take (l : List Sec) (k : Nat) (h : k < l.length) : par (l.take (k + 1)) = sxor (par (l.take k)) l[k] := by
  rw [List.take_succ_eq_append_getElem h, par_snoc]
theorem par_take_all (l : List Sec) (k : Nat) (h : l.length ≤ k) : par (l.take k) = par l := by rw [List.take_of_length_le h]


theorem isAgg5 (w : World) : (isAgg 5).run Try.prog w = .ok false w := by kernel_rfl
theorem part_sec (x : Sec) (i : Nat) (h : i < 64) (w : World) : (part 5 (secC x) (i * 1)).run Try.prog w = .ok (byteV (x ⟨i, h⟩)) w := by
  unfold part
  rw [Sem.run_bind, isAgg5]
  simp only [Result.andThen_ok]
  rw [Nat.mul_one, secC_get x i h]
  rfl
theorem run_eqItems_sec (d : Nat) (x y : Sec) (w : World) : ∀ is : List Nat, (∀ i ∈ is, i < 64) →
    (Op.eqItems (d + 1) 5 1 (secC x) (secC y) is).run Try.prog w = .ok (is.all fun i => decide (∀ h : i < 64, x ⟨i, h⟩ = y ⟨i, h⟩)) w := by
  intro is
  induction is with
  | nil => intro _; rfl
  | cons i is ih =>
    intro h
    have hi : i < 64 := h i (by simp)
    simp only [Op.eqItems, Sem.run_bind, part_sec x i hi, part_sec y i hi, Result.andThen_ok]
    rw [show (Op.equalIn (d + 1) 5 (byteV (x ⟨i, hi⟩)) (byteV (y ⟨i, hi⟩))).run Try.prog w = .ok _ w from run_equalIn_int w d 5 .u8 .u8 _ _ Try.underlying5]
    simp only [Result.andThen_ok]
    by_cases e : x ⟨i, hi⟩ = y ⟨i, hi⟩
    · rw [e]
      simp only [beq_self_eq_true, Bool.not_true, Bool.false_eq_true, if_false]
      rw [ih (fun j hj => h j (List.mem_cons_of_mem _ hj))]
      simp [hi, e]
    · have hne : (((x ⟨i, hi⟩).toNat : Int) == ((y ⟨i, hi⟩).toNat : Int)) = false := by
        rw [beq_eq_false_iff_ne]
        intro h'
        exact e (UInt8.toNat_inj.1 (by omega))
      rw [hne]
      simp [hi, e]
/-- Are two sectors the same? -/
def secEq (x y : Sec) : Bool := (List.range 64).all fun i => decide (∀ h : i < 64, x ⟨i, h⟩ = y ⟨i, h⟩)
theorem secEq_iff (x y : Sec) : secEq x y = true ↔ x = y := by
  rw [secEq, List.all_eq_true]
  simp only [decide_eq_true_eq, List.mem_range]
  constructor
  · intro h; funext j; exact h j.val j.isLt j.isLt
  · intro h i _ h'; rw [h]
theorem secEq_same {x y : Sec} (h : x = y) : secEq x y = true := (secEq_iff x y).2 h
theorem secEq_other {x y : Sec} (h : x ≠ y) : secEq x y = false := by
  cases hh : secEq x y with
  | false => rfl
  | true => exact absurd ((secEq_iff x y).1 hh) h
theorem equalIn_sec (x y : Sec) (w : World) : (Op.equalIn 10000 24 (secV x) (secV y)).run Try.prog w = .ok (secEq x y) w := by
  obtain ⟨i, hi⟩ : ∃ i, Try.prog.info? 5 = some i := Option.isSome_iff_exists.1 (by kernel_rfl)
  have hc : Try.prog.cellsOf 5 = 1 := by kernel_rfl
  unfold secV
  rw [run_equalIn_array w 9999 _ _ Try.underlying24 hi, hc, run_eqItems_sec 9998 x y w _ (fun i hi => by simpa using hi)]; rfl
theorem run_eql_sec (x y : Sec) (w : World) : (binOp .eql 24 (secV x) (secV y)).run Try.prog w = .ok (.bool (secEq x y)) w := by
  have h := equalIn_sec x y w
  unfold secV at h ⊢
  rw [run_eql_struct, h]; rfl
theorem run_neq_sec (x y : Sec) (w : World) : (binOp .neq 24 (secV x) (secV y)).run Try.prog w = .ok (.bool (!secEq x y)) w := by
  have h := equalIn_sec x y w
  unfold secV at h ⊢
  rw [run_neq_struct, h]; rfl
theorem run_guard_sec (op : BinOp) (p q : Operand) (x y : Sec) (w : World) : (eqGuard op 24 p q (secV x) (secV y)).run Try.prog w = .ok () w :=
  run_eqGuard_agg w op 24 p q _ _ (by kernel_rfl)
theorem run_alloc24 (w : World) : (Instr.alloc 24 true (.tuple #[])).run Try.prog w = .ok (.pointer (some ⟨w.heap.size, 0, none⟩)) (w.alloc (.cells (secC zeroS) 24)) := by kernel_rfl
theorem run_build24 (w : World) : (Instr.build 24 #[]).run Try.prog w = .ok (secV zeroS) w := by kernel_rfl
theorem run_box24 (x : Sec) (w : World) : (Instr.box 24 (secV x)).run Try.prog w = .ok (.pointer (some ⟨w.heap.size, 0, none⟩)) (w.alloc (.cells (secC x) 24)) := rfl

def s1 (n : UInt8) : Sec := fun j => if j.val = 0 then n else 0
def s2 (n m : UInt8) : Sec := fun j => if j.val = 0 then n else if j.val = 63 then m else 0
theorem run_build24_1 (w : World) : (Instr.build 24 #[(0, .int .u8 1)]).run Try.prog w = .ok (secV (s1 1)) w := by kernel_rfl
theorem run_build24_2 (w : World) : (Instr.build 24 #[(0, .int .u8 2), (63, .int .u8 7)]).run Try.prog w = .ok (secV (s2 2 7)) w := by kernel_rfl
theorem run_slice0 (w : World) : (Instr.buildSlice 22 0 #[]).run Try.prog w = .ok (.slice (some ⟨w.heap.size, 0, none⟩) 0 0) (w.alloc (.cells #[] 24)) := by kernel_rfl
theorem run_slice1 (x : Sec) (w : World) : (Instr.buildSlice 22 1 #[(0, secV x)]).run Try.prog w = .ok (.slice (some ⟨w.heap.size, 0, none⟩) 1 1) (w.alloc (.cells (secC x) 24)) := by kernel_rfl
theorem run_slice2 (x y : Sec) (w : World) : (Instr.buildSlice 22 2 #[(0, secV x), (1, secV y)]).run Try.prog w = .ok (.slice (some ⟨w.heap.size, 0, none⟩) 2 2) (w.alloc (.cells (secC x ++ secC y) 24)) := by kernel_rfl
theorem run_slice3 (x y z : Sec) (w : World) : (Instr.buildSlice 22 3 #[(0, secV x), (1, secV y), (2, secV z)]).run Try.prog w = .ok (.slice (some ⟨w.heap.size, 0, none⟩) 3 3) (w.alloc (.cells (secC x ++ secC y ++ secC z) 24)) := by kernel_rfl
theorem cellsOf24 : Try.prog.cellsOf 24 = 64 := by kernel_rfl
theorem info24 : (Try.prog.info? 24).map (·.size) = some 64 := by kernel_rfl

end Go.Proofs.Ytpmhhfphbackdaa
