import Derived.Test.YtnnoeomjamlhbaaRingQ
set_option linter.unusedVariables false
set_option linter.unusedSimpArgs false
namespace Go.Proofs.Ytnnoeomjamlhbaa.RingTold
open Go.RowKit Go.Proofs.YtnnoeomjamlhbaaW.PrintWords Go.Proofs.Ytnnoeomjamlhbaa.Own Go.Proofs.Ytnnoeomjamlhbaa.SlU Go.Proofs.Ytnnoeomjamlhbaa.RingQ

set_option maxHeartbeats 1000000 in
theorem told_calls (w : World) : Calls Try.prog 10 #[] w fun e w' => e = .returned (.bool true) ∧ Upd w w' (fun _ => False) := by
  go_enter Try.func10, Try.ntmps10
  go_wp2_with fail
  refine (q_new w 1 2 (by omega) (by omega) (by omega) (by omega)).mono ?_
  rintro e w1 ⟨b, rfl, hb, h1, hu1⟩
  have H1 := Aside0.mk h1
  have U1 := Aside0.mk hu1
  clear h1 hu1
  go_wp2_with fail
  obtain ⟨wA, hwA⟩ : ∃ wA, wA = w1.alloc (.cells #[.int .u32 1, .int .u32 2, .int .u32 3] 37) := ⟨_, rfl⟩
  rw [← hwA]
  have UA : Aside0 (Upd w1 wA (fun _ => False)) := ⟨by rw [hwA]; exact (Upd.refl w1 _).alloc _⟩
  clear hwA
  have H2 := Aside0.mk (H1.out.bound.upd0 UA.out)
  have U2 := Aside0.mk (U1.out.step UA.out)
  have hzA := U2.out.size
  clear H1 U1 UA
  refine (q_put_long _ _ _ _ _ _ _ _ 3 H2.out (by omega)).mono ?_
  rintro e w2 ⟨rfl, rfl⟩
  go_wp2_with fail
  refine (q_put (wA.alloc (.cells #[.int .u32 4, .int .u32 5] 37)) _ b 1 2 [] _ 2 [4, 5] (H2.out.upd0 ((Upd.refl wA _).alloc _)) (C_litN .u32 wA 37 [4, 5] (by simp)) (by simp) (by simp)).mono ?_
  rintro e w3 ⟨rfl, h3, hu3⟩
  have H3 := Aside0.mk h3.bound
  have U3 := Aside0.mk ((U2.out.alloc (.cells #[.int .u32 4, .int .u32 5] 37)).trans hu3 (fun k hk => .inr hk.1))
  clear h3 hu3 H2 U2
  go_wp2_with fail
  refine (q_put_full (w3.alloc (.cells #[.int .u32 6] 37)) _ b 1 2 _ _ 1 1 (H3.out.upd0 ((Upd.refl w3 _).alloc _)) (by omega) (by simp)).mono ?_
  rintro e w4 ⟨rfl, hq⟩
  have hu4 := ((Upd.refl w3 (fun _ => False)).alloc (.cells #[.int .u32 6] 37)).step (Upd.of_q hq)
  have H4 := Aside0.mk (H3.out.upd0 hu4)
  have U4 := Aside0.mk (U3.out.step hu4)
  clear hq hu4 H3 U3
  go_wp2_with fail
  refine (q_take w4 _ b 1 2 [4, 5] [] H4.out).mono ?_
  rintro e w5 ⟨v5, rfl, hr5, h5, hu5⟩
  obtain ⟨A5, c5, rfl⟩ := Kd.R_slice hr5
  have H5 := Aside0.mk h5
  have HR5 := Aside0.mk hr5
  have U5 := Aside0.mk (U4.out.trans hu5 (fun k hk => by
    have := U4.out.size
    rcases hk with ⟨hk, _⟩
    rcases hk with hk | hk
    · exact .inr hk.1
    · have h9 : wA.heap.size ≤ k := Nat.le_trans (Upd.size ((Upd.refl wA (fun _ => False)).alloc _)) hk
      exact .inr (by omega)))
  clear h5 hr5 hu5 H4 U4
  go_wp2_with fail
  refine (q_take0 w5 _ b 1 2 H5.out).mono ?_
  rintro e w6 ⟨rfl, rfl⟩
  go_wp2_with fail
  refine (SameR.same_calls A5 c5 [4, 5] _ _ [4, 5] _ (Kd.C_alloc (Kd.R_reads' HR5.out).2.2 _) (C_litN .u32 w5 37 [4, 5] (by simp))).mono ?_
  rw [show eqB [4, 5] [4, 5] = true by simp [eqB]]
  rintro e w6 ⟨rfl, hq⟩
  have U6 := Aside0.mk ((U5.out.alloc (.cells #[.int .u32 4, .int .u32 5] 37)).step (Upd.of_q hq))
  clear hq U5 H5 HR5
  go_wp2_with fail
  go_ret
  exact ⟨rfl, U6.out⟩
end Go.Proofs.Ytnnoeomjamlhbaa.RingTold
