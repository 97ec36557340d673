import Derived.Test.YtfmbpiimadljkaaEvDrop
import Derived.Test.YtfmbpiimadljkaaEqI
import Derived.Deep.RegionHeld3
import Derived.Deep.QuietTactic
import Derived.BigQuiet
import Derived.Deep.DrawnRows
set_option linter.unusedVariables false
set_option linter.unusedSimpArgs false
namespace Go.Proofs.Ytfmbpiimadljkaa.EvCl
attribute [local go_sem ↓] Go.wp_at_zero Go.wp_at_succ
open Go.RowKit Go.Proofs.YtfmbpiimadljkaaW.PrintWords Go.Proofs.Ytfmbpiimadljkaa.Own Go.Proofs.Ytfmbpiimadljkaa.Ev Go.Proofs.Ytfmbpiimadljkaa.SlI

set_option maxHeartbeats 1000000 in
theorem clone_calls (w : World) (F : Nat → Prop) (b : Nat) (up : Bool) (l : List Int) (h : At w F b up l) (hl : l.length ≤ 1000000) :
    Calls Try.prog 21 #[.pointer (some ⟨b, 0, none⟩)] w fun e w' => ∃ b', e = .returned (.pointer (some ⟨b', 0, none⟩)) ∧ w.heap.size ≤ b' ∧ At w' (fun k => w.heap.size ≤ k) b' up l ∧ Upd w w' (fun _ => False) := by
  obtain ⟨hF, A, c, hb, hr⟩ := at_open h
  clear h
  have HC := Aside0.mk (Kd.R_reads' hr).2.2
  have c0 : w.cell? ⟨b, 0, none⟩ = some (.bool up) := blk_cell hb 0
  have c1 : w.cell? ⟨b, 1, none⟩ = some (.slice A l.length c) := blk_cell hb 1
  clear hb hr
  go_enter Try.func21, Try.ntmps21
  go_wp2_with fail
  go_region_held3 (fun w' => w'.cell? ⟨b, 0, none⟩ = some (.bool up) ∧ w'.cell? ⟨b, 1, none⟩ = some (.slice A l.length c)) (go_keep)
    (first | (go_at_call 24; refine (SlI.clone_calls A c l _ ?_ (by omega)).mono ?_; (exact HC.out); rintro e w1 ⟨v, rfl, hr, hu⟩; obtain ⟨A1, cc, rfl⟩ := Kd.R_slice hr; have k0 := cell_upd0 hu c0; have k1 := cell_upd0 hu c1; have HR := Aside0.mk hr; have HU := Aside0.mk hu; clear hr hu))
  go_wp2
  go_ret
  exact ⟨_, rfl, HU.out.size, (at_mk (F := fun k => w.heap.size ≤ k) HU.out.size (heap_alloc_new w1 _) (Kd.R_alloc HR.out _)), (Upd.trans ((Upd.refl w _).drew) HU.out (fun _ h => h.elim)).alloc _⟩

/-- Are two the same? -/
def sameB (up1 : Bool) (l1 : List Int) (up2 : Bool) (l2 : List Int) : Bool := up1 == up2 && eqB l1 l2

set_option maxHeartbeats 1000000 in
theorem same_calls (w : World) (F G : Nat → Prop) (b d : Nat) (up1 up2 : Bool) (l1 l2 : List Int) (h1 : At w F b up1 l1) (h2 : At w G d up2 l2) :
    Calls Try.prog 22 #[.pointer (some ⟨b, 0, none⟩), .pointer (some ⟨d, 0, none⟩)] w fun e w' => e = .returned (.bool (sameB up1 l1 up2 l2)) ∧ ∃ q, w' = w.drewN q := by
  obtain ⟨hF, A, c, hb, hr⟩ := at_open h1
  obtain ⟨hG, A2, c2, hb2, hr2⟩ := at_open h2
  clear h1 h2
  have HC := Aside0.mk (Kd.R_reads' hr).2.2
  have HD := Aside0.mk (Kd.R_reads' hr2).2.2
  have c0 : w.cell? ⟨b, 0, none⟩ = some (.bool up1) := blk_cell hb 0
  have c1 : w.cell? ⟨b, 1, none⟩ = some (.slice A l1.length c) := blk_cell hb 1
  have d0 : w.cell? ⟨d, 0, none⟩ = some (.bool up2) := blk_cell hb2 0
  have d1 : w.cell? ⟨d, 1, none⟩ = some (.slice A2 l2.length c2) := blk_cell hb2 1
  clear hb hr hb2 hr2
  by_cases hu : up1 = up2
  · subst hu
    have hq : (up1 == up1) = true := by simp
    have HS : Aside0 (sameB up1 l1 up1 l2 = eqB l1 l2) := ⟨by simp [sameB]⟩
    go_enter Try.func22, Try.ntmps22
    go_wp2_with fail
    go_quiet ((go_at_call 28; exact Calls.quiet_of (SameE.same_calls A c l1 A2 c2 l2 _ (Kd.C_drewN HC.out _) (Kd.C_drewN HD.out _))))
    go_wp2
    go_ret
    exact ⟨by rw [HS.out]; rfl, _, rfl⟩
  · have hq : (up1 == up2) = false := by simpa using hu
    have HS : Aside0 (sameB up1 l1 up2 l2 = false) := ⟨by simp [sameB, hq]⟩
    go_enter Try.func22, Try.ntmps22
    go_wp2_with fail
    go_quiet (fail)
    go_wp2
    go_ret
    exact ⟨by rw [HS.out]; rfl, _, rfl⟩
end Go.Proofs.Ytfmbpiimadljkaa.EvCl
