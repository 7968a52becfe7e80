/- The arguments of the statements of layer 11, opened: a sector, a slice of sectors. -/
import Derived.Test.YtpmhhfphbackdaaShown
import Derived.Deep.Slices
import Derived.ProofKit
import Derived.OpenShut
import Derived.ShutString
import Derived.ChangeOld
namespace Go.Proofs.Ytpmhhfphbackdaa
open Go.RowKit Go.ChangeShapes Go.WideShapes

theorem own : ownKnob Try.prog.godebug = none := by kernel_rfl
theorem laidOut : laidOutB Try.prog = true := by kernel_rfl

section
variable {H : Type} {enc : TypeId × Value → H} {w : World} {base : Nat} {spare : Nat → Bool} {held : Bool}
theorem sec_of_trod {fuel : Nat} {cs : List Value} {x : DataW H × List MemPlace} (h : DataW.trod enc Try.prog w base spare held fuel 24 cs = some x) : ∃ s : Sec, cs = (secC s).toList := by
  obtain ⟨xs, m, rfl, _, hl, hx, hi⟩ := DataW.trod_array Try.underlying24 h
  have hc : Try.prog.cellsOf 5 = 1 := by kernel_rfl
  rw [cellsOf24] at hl
  have hcell : ∀ i : Fin 64, ∃ n : UInt8, cs[i.val]? = some (byteV n) := by
    intro i
    have h1 := hi i.val i.isLt
    rw [hc, Nat.mul_one, List.getElem?_eq_getElem (by omega)] at h1
    obtain ⟨n, hn, _, hwf⟩ := DataW.trod_int Try.underlying5 h1
    have hh : cs[i.val]? = some (.int .u8 n) := by
      have h2 := congrArg (·[0]?) hn
      simpa using h2
    have hb : 0 ≤ n ∧ n < 256 := by
      simp [Lit.wf, IntKind.min, IntKind.max, IntKind.signed, IntKind.bits] at hwf
      omega
    refine ⟨UInt8.ofNat n.toNat, ?_⟩
    rw [hh, byteV]
    congr 2
    rw [UInt8.toNat_ofNat']
    omega
  refine ⟨fun i => Classical.choose (hcell i), ?_⟩
  apply List.ext_getElem?
  intro i
  by_cases hi' : i < 64
  · have h1 := Classical.choose_spec (hcell ⟨i, hi'⟩)
    exact h1.trans ((secC_get (fun i => Classical.choose (hcell i)) i hi').symm.trans Array.getElem?_toList.symm)
  · rw [List.getElem?_eq_none (by omega), List.getElem?_eq_none (by simp [secC]; omega)]
theorem open_sec {r : Reach} {b0 : Nat} {v : Value} {d : DataW H} {p : List MemPlace} (hv : Value.okWide Try.prog w r b0 24 v) (h : DataW.Trod enc Try.prog w base spare held 24 v d p) : ∃ s : Sec, v = secV s := by
  unfold Value.okWide at hv
  rw [Try.underlying24] at hv
  obtain ⟨cs, rfl, _, _⟩ := hv
  obtain ⟨fuel, hf⟩ := h
  obtain ⟨s, hs⟩ := sec_of_trod hf
  have h1 : cs.toList = (secC s).toList := hs
  exact ⟨s, congrArg Value.agg (Array.toList_inj.1 h1)⟩
theorem cells_get {W : World} {b : Nat} {a : Addr} : ∀ {n : Nat} {cs : List Value}, W.cells? b a n = some cs → ∀ j, j < n → W.cell? (a.add j) = cs[j]? := by
  intro n cs h j hj
  unfold World.cells? at h
  split at h
  · exact (mapM_some_get h j j (by simp [hj])).trans (by rfl)
  · cases h
theorem open_secs {r : Reach} {b0 : Nat} {v : Value} {d : DataW H} {p : List MemPlace} (hv : Value.okWide Try.prog w r b0 22 v) (h : DataW.Trod enc Try.prog w base spare held 22 v d p) : ∃ ss : List Sec, IsSecs w v ss := by
  obtain ⟨a0, len0, cap0, rfl⟩ := okWide_slice Try.underlying22 hv
  obtain ⟨fuel, hf⟩ := h
  rcases Deep.open_slice Try.underlying22 hf with ⟨hcs, _⟩ | ⟨a, len, cap, m, n, D, Pl, hcs, _, hl, hmax, hm, _, hel⟩
  · simp [Value.cells] at hcs
    obtain ⟨rfl, rfl, rfl⟩ := hcs
    exact ⟨[], .inl ⟨_, _, rfl, fun _ => rfl, rfl⟩⟩
  · simp [Value.cells] at hcs
    obtain ⟨rfl, rfl, rfl⟩ := hcs
    have hlm : len0 ≤ m := by rw [hm]; split <;> omega
    rw [cellsOf24] at hel
    have hsec : ∀ i : Fin len0, ∃ s : Sec, ∀ j (hj : j < 64), w.cell? ((a.add (i.val * 64)).add j) = some (byteV (s ⟨j, hj⟩)) := by
      intro i
      obtain ⟨cs', hc, ht⟩ := hel i.val (by omega)
      obtain ⟨s, hs⟩ := sec_of_trod ht
      refine ⟨s, fun j hj => ?_⟩
      rw [cells_get hc j hj, hs, ← secC_get s j hj]
      simp
    by_cases h0 : len0 = 0
    · subst h0; exact ⟨[], .inl ⟨_, _, rfl, fun h => (by cases h), rfl⟩⟩
    · have hspot : a.spot = none := by
        have h1 := Classical.choose_spec (hsec ⟨0, by omega⟩) 0 (by omega)
        have h2 := World.cell?_spot h1
        simpa [Addr.add] using h2
      obtain ⟨b, o, sp⟩ := a
      subst hspot
      have hsec' : ∀ i : Fin len0, ∃ s : Sec, ∀ j (hj : j < 64), w.cell? ⟨b, o + i.val * 64 + j, none⟩ = some (byteV (s ⟨j, hj⟩)) := fun i => by
        obtain ⟨s, hs⟩ := hsec i
        exact ⟨s, fun j hj => by have h1 := hs j hj; rw [addr_add, addr_add] at h1; exact h1⟩
      refine ⟨List.ofFn fun i : Fin len0 => Classical.choose (hsec' i), .inr ⟨b, o, cap0, ?_, ?_, ?_, ?_, ?_⟩⟩
      · rw [List.length_ofFn]
      · intro e; have := congrArg List.length e; rw [List.length_ofFn] at this; exact h0 this
      · rw [List.length_ofFn]; omega
      · rw [List.length_ofFn]; omega
      · intro i hi j hj
        rw [List.length_ofFn] at hi
        rw [Classical.choose_spec (hsec' ⟨i, hi⟩) j hj, List.getElem_ofFn]
end
end Go.Proofs.Ytpmhhfphbackdaa
