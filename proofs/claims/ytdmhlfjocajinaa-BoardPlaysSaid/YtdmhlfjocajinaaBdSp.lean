import Derived.Test.YtdmhlfjocajinaaBoard
set_option linter.unusedVariables false
set_option linter.unusedSimpArgs false
namespace Go.Proofs.Ytdmhlfjocajinaa.BdSp
attribute [local go_sem ↓] Go.wp_at_zero Go.wp_at_succ
open Go.RowKit Go.Proofs.YtdmhlfjocajinaaW.PrintWords Go.Proofs.Ytdmhlfjocajinaa.Own Go.Proofs.Ytdmhlfjocajinaa.Own2 Go.Proofs.Ytdmhlfjocajinaa.Board

theorem F_new {k : IntKind} {e c : Nat} {ok : Nat → Prop} {w : World} {A : Option Addr} {n b : Nat} {xs : List Int} (h : (Kd.int k).R e w 0 ok (.slice A n c) xs) (hb : ∀ k, ok k → k ≠ b) : Kd.F (Kd.int k) w (fun k => k ≠ b) A n xs := Kd.F_mono (Kd.R_F h) hb
theorem F_lit (k : IntKind) (W : World) (e : TypeId) (xs : List Int) (hm : xs.length ≤ 9223372036854775807) (b : Nat) (hb : b < W.heap.size) :
    Kd.F (Kd.int k) (W.alloc (.cells (encs (Value.int k) xs).toArray e)) (fun k => k ≠ b) (some ⟨W.heap.size, 0, none⟩) xs.length xs :=
  Kd.F_mono (Kd.R_F (R_litN k W e xs hm)) (fun k hk => by omega)

set_option maxHeartbeats 1000000 in
theorem speaks_calls (w : World) : Calls Try.prog 9 #[] w fun e w' => e = .returned (.bool true) ∧ Upd w w' (fun _ => False) := by
  go_enter Try.func9, Try.ntmps9
  go_wp2_with fail
  refine (new_calls w 2 (by omega) (by omega)).mono ?_
  rintro e w1 ⟨rfl, h1, hu1⟩
  have H1 := Aside0.mk h1
  have U1 := Aside0.mk hu1
  have hb := h1.lt
  obtain ⟨b, hbe⟩ : ∃ b, b = w.heap.size := ⟨_, rfl⟩
  rw [← hbe] at H1 hb ⊢
  have hwb : w.heap.size ≤ b := by omega
  clear h1 hu1 hbe
  go_wp2_with fail
  refine (read_no w1 _ b 2 [] [] 7 H1.out (by simp)).mono ?_
  rintro e w2 ⟨rfl, h2, hu2⟩
  rw [show waitL false [] 7 = [7] by rfl] at h2
  have H2 := Aside0.mk h2.bound
  have U2 := Aside0.mk (U1.out.trans hu2 (fun k hk => .inr (by rw [hk]; exact hwb)))
  have hz12 := hu2.size
  clear h2 hu2 H1
  go_wp2_with fail
  have hb2 : b < w2.heap.size := by omega
  refine (show_calls (w2.alloc (.cells #[.int .u32 1, .int .u32 2] 29)) _ b 2 false [] [7] _ 2 [1, 2] (H2.out.upd0 ((Upd.refl w2 _).alloc _)) (F_lit .u32 w2 29 [1, 2] (by simp) b hb2) (by simp) (by omega)).mono ?_
  rintro e w3 ⟨v3, rfl, hr3, h3, hu3⟩
  obtain ⟨A3, c3, rfl⟩ := Kd.R_slice hr3
  have hz23 : w2.heap.size + 1 ≤ w3.heap.size := by have := hu3.size; simpa using this
  have H3 : Aside0 (At w3 (fun k => k = b ∨ w2.heap.size + 1 ≤ k ∧ k < w3.heap.size) b 2 true [1, 2] []) := ⟨h3.bound.mono (fun k hk => hk.1.imp id (fun h => ⟨by simpa using h, hk.2⟩))⟩
  have R3 : Aside0 (ik.R 3 w3 0 (fun k => k ≠ b ∧ k < w2.heap.size + 1) (.slice A3 1 c3) [7]) := ⟨Kd.R_mono hr3 (fun k hk => ⟨hk.1.2, by have := hk.2; simpa using this⟩)⟩
  have U3 := Aside0.mk ((U2.out.alloc _).trans hu3 (fun k hk => .inr (by omega)))
  clear hr3 h3 hu3 H2 U2
  go_wp2_with fail
  refine (read_yes w3 _ b 2 [1, 2] [] 8 H3.out (by simp)).mono ?_
  rintro e w4 ⟨v4, rfl, hr4, hu4⟩
  obtain ⟨A4, c4, rfl⟩ := Kd.R_slice hr4
  have hz34 := hu4.size
  have H4 := Aside0.mk (H3.out.upd0 hu4)
  have R4 := Aside0.mk (R_upd0 R3.out hu4)
  have S4 := Aside0.mk (Kd.R_mono (Kd.R_bound hr4) (fun k hk => (⟨hk.1, hk.2.2.1⟩ : w3.heap.size ≤ k ∧ k < w4.heap.size)))
  have U4 := Aside0.mk (U3.out.step hu4)
  clear hr4 hu4 H3 R3 U3
  go_wp2_with fail
  refine (clear_calls w4 _ b 2 true [1, 2] [] H4.out).mono ?_
  rintro e w5 ⟨rfl, h5, hu5⟩
  have hz45 := hu5.size
  have H5 := Aside0.mk h5
  have R5 := Aside0.mk (R_upd' R4.out hu5 (fun k hk _ h => hk.1 h))
  have S5 := Aside0.mk (R_upd' S4.out hu5 (fun k hk _ h => by omega))
  have U5 := Aside0.mk (U4.out.trans hu5 (fun k hk => .inr (by omega)))
  clear h5 hu5 H4 R4 S4 U4
  go_wp2_with fail
  refine (read_no w5 _ b 2 [] [] 8 H5.out (by simp)).mono ?_
  rintro e w6 ⟨rfl, h6, hu6⟩
  have R6 := Aside0.mk (Kd.R_reads' (R_upd' R5.out hu6 (fun k hk _ h => by omega))).2.2
  have S6 := Aside0.mk (Kd.R_reads' (R_upd' S5.out hu6 (fun k hk _ h => by omega))).2.2
  have U6 := Aside0.mk (U5.out.trans hu6 (fun k hk => .inr (by omega)))
  clear h6 hu6 H5 R5 S5 U5
  go_wp2_with fail
  refine (SameI.same_calls A3 c3 [7] _ 1 [7] _ (Kd.C_alloc R6.out _) (C_litN .i64 w6 3 [7] (by simp))).mono ?_
  rw [show eqB [7] [7] = true by simp [eqB]]
  rintro e w7 ⟨rfl, hq⟩
  have S7 := Aside0.mk (Kd.C_below S6.out (((Upd.refl w6 (fun _ => False)).alloc (.cells #[.int .i64 7] 3) |>.step (Upd.of_q hq)).to_below (Nat.le_refl _) (fun _ h => h.elim)))
  have U7 := Aside0.mk ((U6.out.alloc (.cells #[.int .i64 7] 3)).step (Upd.of_q hq))
  clear hq R6 S6 U6
  go_wp2_with fail
  refine (SameU.same_calls A4 c4 [1, 2] _ 2 [1, 2] _ (Kd.C_alloc S7.out _) (C_litN .u32 w7 29 [1, 2] (by simp))).mono ?_
  rw [show eqB [1, 2] [1, 2] = true by simp [eqB]]
  rintro e w8 ⟨rfl, hq⟩
  have U8 := Aside0.mk ((U7.out.alloc (.cells #[.int .u32 1, .int .u32 2] 29)).step (Upd.of_q hq))
  clear hq U7 S7
  go_wp2_with fail
  go_ret
  exact ⟨rfl, U8.out⟩
end Go.Proofs.Ytdmhlfjocajinaa.BdSp
