/- The walk of what must be in any case (shown). -/
import Derived.Test.YtbbdbcgmeffchaaRing6
import Derived.Outline
namespace Go.Proofs.Ytbbdbcgmeffchaa
open Go.RowKit
set_option linter.unusedSimpArgs false
set_option maxHeartbeats 2000000 in
theorem shown_any (w : World) : Calls Try.prog 8 #[] w fun e w' => e = .returned (.bool true) ∧ Below w.heap.size w w' := by
  go_enter Try.func8, Try.ntmps8
  go_wp2_with fail
  refine (new_any w).mono ?_
  rintro e W1 ⟨r, F1, rfl, hr, hst⟩
  go_wp2_with fail
  refine (touch_any _ _ r _ _ 1 hr (by unfold wf64; decide) (by decide)).mono ?_
  rintro e W2 ⟨rfl, ⟨F2, hr2, _⟩, hu2⟩
  replace hst := hu2.below hst hst.size (fun k hF => (hr.low k hF).1)
  replace hr : Row W2 w.heap.size r [1] F2 := hr2
  clear hr2 hu2
  go_wp2_with fail
  refine (touch_any _ _ r _ _ 2 hr (by unfold wf64; decide) (by decide)).mono ?_
  rintro e W3 ⟨rfl, ⟨F3, hr3, _⟩, hu3⟩
  replace hst := hu3.below hst hst.size (fun k hF => (hr.low k hF).1)
  replace hr : Row W3 w.heap.size r [1, 2] F3 := hr3
  clear hr3 hu3
  go_wp2_with fail
  refine (touch_any _ _ r _ _ 3 hr (by unfold wf64; decide) (by decide)).mono ?_
  rintro e W4 ⟨rfl, ⟨F4, hr4, _⟩, hu4⟩
  replace hst := hu4.below hst hst.size (fun k hF => (hr.low k hF).1)
  replace hr : Row W4 w.heap.size r [1, 2, 3] F4 := hr4
  clear hr4 hu4
  go_wp2_with fail
  refine (touch_any _ _ r _ _ 1 hr (by unfold wf64; decide) (by decide)).mono ?_
  rintro e W5 ⟨rfl, ⟨F5, hr5, _⟩, hu5⟩
  replace hst := hu5.below hst hst.size (fun k hF => (hr.low k hF).1)
  replace hr : Row W5 w.heap.size r [2, 3, 1] F5 := hr5
  clear hr5 hu5
  go_wp2_with fail
  refine (all_any _ _ r _ _ hr (by decide)).mono ?_
  rintro e W6 ⟨v6, rfl, hl, hb6⟩
  replace hr := hr.step hb6
  replace hst := hst.trans (hb6.mono hst.size)
  have hl := hl.isI
  clear hb6
  go_wp2_with fail
  refine (oldest_any _ _ r _ _ 1 hr (by decide)).mono ?_
  rintro e W7 ⟨v7, rfl, hk, hb7⟩
  replace hr := hr.step hb7
  replace hst := hst.trans (hb7.mono hst.size)
  replace hl := hl.step hb7
  have hk : IsI W7 v7 [2] := hk.isI
  clear hb7
  obtain ⟨a, c, rfl, _, _, hl⟩ := hl
  obtain ⟨b, o, rfl, hat⟩ := hl (by decide)
  obtain ⟨a', c', rfl, _, _, hk⟩ := hk
  obtain ⟨b', o', rfl, hat'⟩ := hk (by decide)
  have h0 : W7.cell? ⟨b, o, none⟩ = some (.int .i64 2) := hat 0 (by decide)
  have h1 : W7.cell? ⟨b, o + 1, none⟩ = some (.int .i64 3) := hat 1 (by decide)
  have h2 : W7.cell? ⟨b, o + 2, none⟩ = some (.int .i64 1) := hat 2 (by decide)
  have h3 : W7.cell? ⟨b', o', none⟩ = some (.int .i64 2) := hat' 0 (by decide)
  rw [show ([2, 3, 1] : List Int).length = 3 from rfl, show ([2] : List Int).length = 1 from rfl]
  clear hl hk hat hat'
  go_wp2_with fail
  refine (drop_any _ _ r _ _ 3 hr (by unfold wf64; decide)).mono ?_
  rintro e W8 ⟨rfl, hr8, hu8⟩
  replace hst := hu8.below hst hst.size (fun k hF => (hr.low k hF).1)
  replace hr : Row W8 w.heap.size r [2, 1] F5 := hr8
  rw [show ([2, 3, 1] : List Int).contains 3 = true from rfl]
  clear h0 h1 h2 h3 hr8 hu8
  go_wp2_with fail
  refine (drop_any _ _ r _ _ 3 hr (by unfold wf64; decide)).mono ?_
  rintro e W9 ⟨rfl, hr9, hu9⟩
  replace hst := hu9.below hst hst.size (fun k hF => (hr.low k hF).1)
  replace hr : Row W9 w.heap.size r [2, 1] F5 := hr9
  rw [show ([2, 1] : List Int).contains 3 = false from rfl]
  clear hr9 hu9
  go_wp2_with fail
  refine (len_any _ _ r _ _ hr).mono ?_
  rintro e W10 ⟨rfl, rfl⟩
  rw [show ([2, 1] : List Int).length = 2 from rfl]
  go_wp2_with fail
  refine (has_any _ _ r _ _ 1 hr (by unfold wf64; decide)).mono ?_
  rintro e W10 ⟨rfl, rfl⟩
  rw [show ([2, 1] : List Int).contains 1 = true from rfl]
  go_wp2_with fail
  refine (has_any _ _ r _ _ 3 hr (by unfold wf64; decide)).mono ?_
  rintro e W10 ⟨rfl, rfl⟩
  rw [show ([2, 1] : List Int).contains 3 = false from rfl]
  go_wp2_with fail
  exact ret_tmp rfl _ rfl rfl ⟨rfl, hst⟩
end Go.Proofs.Ytbbdbcgmeffchaa
