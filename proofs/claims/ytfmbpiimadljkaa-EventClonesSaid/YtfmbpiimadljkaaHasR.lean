import Derived.Test.YtfmbpiimadljkaaOwn
set_option linter.unusedVariables false
set_option linter.unusedSimpArgs false
namespace Go.Proofs.Ytfmbpiimadljkaa.HasR
open Go.RowKit Go.Proofs.YtfmbpiimadljkaaW.PrintWords Go.Proofs.Ytfmbpiimadljkaa.Own
abbrev nk : Kd Int := Kd.int .i64

theorem contains_of {l : List Int} {x : Int} {k : Nat} (hk : k < l.length) (he : rd l k = x) : hasB l x = true := by
  unfold hasB
  rw [List.contains_iff_mem]
  rw [← he]
  simp [rd, List.getD, hk]
theorem contains_not {l : List Int} {x : Int} (hn : ∀ j, j < l.length → rd l j ≠ x) : hasB l x = false := by
  unfold hasB
  rw [← Bool.not_eq_true, List.contains_iff_mem]
  intro hx
  obtain ⟨j, hj, rfl⟩ := List.getElem_of_mem hx
  exact hn j hj (by simp [rd, List.getD, hj])

set_option maxHeartbeats 400000 in
/-- 'monocoque/monocoqueref23.Has': does it stand there? -/
theorem has_calls (A : Option Addr) (c : Nat) (l : List Int) (x : Int) (w : World) (hr : nk.C w A l.length l) :
    Calls Try.prog 14 #[.slice A l.length c, .int .i64 x] w fun e w' => e = .returned (.bool (hasB l x)) ∧ w = w' := by
  have HR := Aside0.mk hr
  have hm := Kd.C_max hr
  clear hr
  go_enter Try.func14, Try.ntmps14
  go_wp2
  go_loop [5] (fun i => ∃ k : Nat, k ≤ l.length ∧ i = .int .i64 k ∧ Aside0 (∀ j, j < k → rd l j ≠ x)) (fun i => l.length - (intOf i).toNat)
  case atStart => exact ⟨0, Nat.zero_le _, rfl, ⟨fun j hj => absurd hj (Nat.not_lt_zero _)⟩⟩
  case round =>
    obtain ⟨k, hk, rfl, HN⟩ := hrel
    by_cases hlt : k < l.length
    · obtain ⟨ad, rfl, hc⟩ := Kd.at_int HR.out (k : Int) (by omega) (by omega)
      rw [Int.toNat_natCast] at hc
      by_cases he : rd l k = x
      · have hb : (rd l k == x) = true := beq_iff_eq.mpr he
        have HE := Aside0.mk (contains_of hlt he)
        clear he
        go_wp2
        go_ret
        exact ⟨by rw [HE.out]; rfl, rfl⟩
      · have hb : (rd l k == x) = false := beq_eq_false_iff_ne.mpr he
        have HE := Aside0.mk he
        clear he
        go_wp2
        go_round
        case rel => exact ⟨k + 1, by omega, by go_num, ⟨fun j hj => by
          by_cases h : j = k
          · rw [h]; exact HE.out
          · exact HN.out j (by omega)⟩⟩
        case measure => simp [intOf]; omega
    · have HE := Aside0.mk (contains_not (l := l) (x := x) (fun j hj => HN.out j (by omega)))
      go_wp2
      go_ret
      exact ⟨by rw [HE.out]; rfl, rfl⟩
end Go.Proofs.Ytfmbpiimadljkaa.HasR
