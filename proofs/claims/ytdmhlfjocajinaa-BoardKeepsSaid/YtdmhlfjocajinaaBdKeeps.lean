import Derived.Test.YtdmhlfjocajinaaBdSp
import Derived.Test.YtdmhlfjocajinaaOwn3
set_option linter.unusedVariables false
set_option linter.unusedSimpArgs false
namespace Go.Proofs.Ytdmhlfjocajinaa.BdKeeps
attribute [local go_sem ↓] Go.wp_at_zero Go.wp_at_succ
open Go.RowKit Go.Proofs.YtdmhlfjocajinaaW.PrintWords Go.Proofs.Ytdmhlfjocajinaa.Own Go.Proofs.Ytdmhlfjocajinaa.Own2 Go.Proofs.Ytdmhlfjocajinaa.Own3 Go.Proofs.Ytdmhlfjocajinaa.Board Go.Proofs.Ytdmhlfjocajinaa.BdSp

/-- Three rows of one's own, of n numbers each, at different blocks. -/
def Three (w : World) (n : Nat) (gs cs : Nat → Nat) : Prop :=
  (∀ i, i < 3 → ∃ x : List Int, x.length = n ∧ uk.R 29 w 0 (fun k => k = gs i) (.slice (some ⟨gs i, 0, none⟩) n (cs i)) x) ∧ ∀ i j, i < 3 → j < 3 → i ≠ j → gs i ≠ gs j
theorem row_form {w : World} {ok : Nat → Prop} {A : Option Addr} {n c : Nat} {x : List Int} (h : uk.R 29 w 0 ok (.slice A n c) x) (hx : 0 < x.length) : ∃ g, A = some ⟨g, 0, none⟩ ∧ ok g ∧ uk.R 29 w 0 (fun k => k = g) (.slice (some ⟨g, 0, none⟩) n c) x := by
  obtain ⟨g, cap, hv, _⟩ := Kd.R_form h hx
  injection hv with h1 _ _
  subst h1
  refine ⟨g, rfl, h.1 g rfl, Kd.R_mono (Kd.R_tight rfl h) (fun k hk => by injection hk with hk)⟩

theorem Three.cell {w : World} {n : Nat} {gs cs : Nat → Nat} (h : Three w n gs cs) (i s : Nat) (hi : i < 3) (hs : s < n) :
    ∃ v, w.cell? ⟨gs i, s, none⟩ = some (.int .u32 v) ∧ w.frozen? ⟨gs i, s, none⟩ = false ∧ ∀ y, Three (w.setCell ⟨gs i, s, none⟩ (.int .u32 y)) n gs cs := by
  obtain ⟨x, hx, hr⟩ := h.1 i hi
  rw [← hx] at hr
  obtain ⟨h1, h2⟩ := Kd.R_cell 0 hr (s : Int) (by omega) (by omega)
  rw [Int.toNat_natCast] at h1 h2
  refine ⟨_, h1, h2, fun y => ⟨fun j hj => ?_, h.2⟩⟩
  by_cases e : j = i
  · subst e
    have h3 := (Kd.R_put hr (s : Int) y).1
    rw [Int.toNat_natCast] at h3
    refine ⟨x.set s y, by simp [hx], ?_⟩
    rw [← hx]
    exact h3
  · obtain ⟨x', hx', hr'⟩ := h.1 j hj
    exact ⟨x', hx', Kd.R_far (p := ⟨gs i, s, none⟩) hr' (fun k hk h' => h.2 j i hj hi e (by rw [← hk, h'])) _⟩
theorem Three.upd0 {w w1 : World} {n : Nat} {gs cs : Nat → Nat} (h : Three w n gs cs) (hu : Upd w w1 (fun _ => False)) : Three w1 n gs cs :=
  ⟨fun i hi => by obtain ⟨x, hx, hr⟩ := h.1 i hi; exact ⟨x, hx, R_upd0 hr hu⟩, h.2⟩

set_option maxRecDepth 20000 in
set_option maxHeartbeats 8000000 in
theorem walk (A0 : Option Addr) (c0 : Nat) (m : List Int) (w : World) (hr : uk.C w A0 m.length m) (hc : m.length ≤ c0) (hwf : ∀ y ∈ m, (Lit.int .u32 y).wf = true) :
    Calls Try.prog 3 #[.slice A0 m.length c0] w fun e w' => e = .returned (.bool true) ∧ Below w.heap.size w w' := by
  have HR := Aside0.mk hr
  clear hr hwf
  by_cases hl : m.length ≤ 32 ∧ 0 < m.length
  rotate_left
  · by_cases h32 : m.length ≤ 32
    · have e1 : decide ((m.length : Int) > 32) = false := by rw [decide_eq_false_iff_not]; omega
      have e2 : ((m.length : Int) == 0) = true := by rw [beq_iff_eq]; omega
      have e3 : m.length = 0 := by omega
      go_enter Try.func3, Try.ntmps3
      go_wp2_with fail
      refine (speaks_calls w).mono ?_
      rintro e w1 ⟨rfl, hu1⟩
      have U1 := Aside0.mk hu1
      clear hu1
      go_wp2_with fail
      refine (speaks_calls w1).mono ?_
      rintro e w2 ⟨rfl, hu2⟩
      have U2 := Aside0.mk (U1.out.step hu2)
      clear hu2
      go_wp2_with fail
      go_ret
      exact ⟨rfl, U2.out.to_below (Nat.le_refl _) (fun _ h => h.elim)⟩
    · have e1 : decide ((m.length : Int) > 32) = true := by rw [decide_eq_true_eq]; omega
      have e2 : (32 : Int) < (m.length : Int) := by omega
      go_enter Try.func3, Try.ntmps3
      go_wp2_with fail
      refine (speaks_calls w).mono ?_
      rintro e w1 ⟨rfl, hu1⟩
      have U1 := Aside0.mk hu1
      clear hu1
      go_wp2_with fail
      refine (speaks_calls w1).mono ?_
      rintro e w2 ⟨rfl, hu2⟩
      have U2 := Aside0.mk (U1.out.step hu2)
      clear hu2
      go_wp2_with fail
      go_ret
      exact ⟨rfl, U2.out.to_below (Nat.le_refl _) (fun _ h => h.elim)⟩
  obtain ⟨h32, h0⟩ := hl
  have e1 : decide ((m.length : Int) > 32) = false := by rw [decide_eq_false_iff_not]; omega
  have e2 : ((m.length : Int) == 0) = false := by rw [beq_eq_false_iff_ne]; omega
  have e3 : ¬ m.length = 0 := by omega
  go_enter Try.func3, Try.ntmps3
  go_wp2_with fail
  refine (speaks_calls w).mono ?_
  rintro e w1 ⟨rfl, hu1⟩
  have U1 := Aside0.mk hu1
  have hz1 := hu1.size
  clear hu1
  go_wp2_with fail
  refine (new_calls w1 32 (by omega) (by omega)).mono ?_
  rintro e w2 ⟨rfl, h2, hu2⟩
  obtain ⟨b, hb⟩ : ∃ b, b = w1.heap.size := ⟨_, rfl⟩
  rw [← hb] at h2 ⊢
  have hb2 := h2.lt
  have hwb : w.heap.size ≤ b := by omega
  have H2 := Aside0.mk h2
  have U2 := Aside0.mk (U1.out.step hu2)
  have hz2 := hu2.size
  clear h2 hu2 U1 hb
  go_wp2_with fail
  refine (SlU.clone_calls A0 c0 m w2 (Kd.C_below HR.out (U2.out.to_below (Nat.le_refl _) (fun _ h => h.elim))) (by omega)).mono ?_
  rintro e w3 ⟨v3, rfl, hr3, hu3⟩
  obtain ⟨A3, c3, rfl⟩ := Kd.R_slice hr3
  obtain ⟨g0, rfl, hg0, r3⟩ := row_form hr3 h0
  have hg0l := Kd.R_lt r3 g0 rfl
  have R3 := Aside0.mk r3
  have H3 := Aside0.mk (H2.out.upd0 hu3)
  have U3 := Aside0.mk (U2.out.step hu3)
  have hz3 := hu3.size
  have hg0b : ∀ k, k = g0 → k ≠ b := fun k hk => by omega
  clear hr3 hu3 r3 H2 U2
  go_wp2_with fail
  refine (show_calls w3 _ b 32 false [] [] _ c3 m H3.out (F_new R3.out hg0b) h32 (by omega)).mono ?_
  rintro e w4 ⟨v4, rfl, hr4, h4, hu4⟩
  have H4 : Aside0 (At w4 (fun k => k = b ∨ w3.heap.size ≤ k ∧ k < w4.heap.size) b 32 true m []) := ⟨h4.bound.mono (fun k hk => by omega)⟩
  have R4 := Aside0.mk (R_upd' R3.out hu4 (fun k hk _ h => by omega))
  have U4 := Aside0.mk (U3.out.trans hu4 (fun k hk => .inr (by omega)))
  have hz4 := hu4.size
  clear hr4 h4 hu4 H3 R3 U3
  go_wp2_with fail
  refine (shown_yes w4 _ b 32 m [] H4.out (by omega)).mono ?_
  rintro e w5 ⟨v5, rfl, hr5, hu5⟩
  obtain ⟨A5, c5, rfl⟩ := Kd.R_slice hr5
  obtain ⟨g1, rfl, hg1, r5⟩ := row_form hr5 h0
  have hg1l := Kd.R_lt r5 g1 rfl
  have H5 := Aside0.mk (H4.out.upd0 hu5)
  have R5 := Aside0.mk (R_upd0 R4.out hu5)
  have S5 := Aside0.mk r5
  have U5 := Aside0.mk (U4.out.step hu5)
  have hz5 := hu5.size
  clear hr5 hu5 r5 H4 R4 U4
  go_wp2_with fail
  refine (read_yes w5 _ b 32 m [] 1 H5.out (by omega)).mono ?_
  rintro e w6 ⟨v6, rfl, hr6, hu6⟩
  obtain ⟨A6, c6, rfl⟩ := Kd.R_slice hr6
  obtain ⟨g2, rfl, hg2, r6⟩ := row_form hr6 h0
  have hg2l := Kd.R_lt r6 g2 rfl
  have H6 := Aside0.mk (H5.out.upd0 hu6)
  have R6 := Aside0.mk (R_upd0 R5.out hu6)
  have S6 := Aside0.mk (R_upd0 S5.out hu6)
  have T6 := Aside0.mk r6
  have U6 := Aside0.mk (U5.out.step hu6)
  have hz6 := hu6.size
  clear hr6 hu6 r6 H5 R5 S5 U5
  go_wp2_with fail
  obtain ⟨p, hp⟩ : ∃ p, p = w6.heap.size := ⟨_, rfl⟩
  rw [← hp]
  generalize hW : World.alloc w6 _ = W6
  have hu6 : Upd w6 W6 (fun _ => False) := by rw [← hW]; exact (Upd.refl _ _).alloc _
  have hpb : W6.heap[p]? = some (.cells #[.slice (some ⟨g0, 0, none⟩) m.length c3, .slice (some ⟨g1, 0, none⟩) m.length c5, .slice (some ⟨g2, 0, none⟩) m.length c6] 22 (0, 0)) := by rw [← hW, hp]; exact heap_alloc_new _ _
  have HPB := Aside0.mk hpb
  have hps : p < W6.heap.size := blk_lt hpb
  obtain ⟨gs, hgs⟩ : ∃ gs : Nat → Nat, gs = fun i => if i = 0 then g0 else if i = 1 then g1 else g2 := ⟨_, rfl⟩
  obtain ⟨cs, hcs⟩ : ∃ cs : Nat → Nat, cs = fun i => if i = 0 then c3 else if i = 1 then c5 else c6 := ⟨_, rfl⟩
  have HT : Aside0 (Three W6 m.length gs cs) := ⟨by
    refine Three.upd0 ⟨fun i hi => ?_, fun i j hi hj hne => ?_⟩ hu6
    · rw [hgs, hcs]
      have : i = 0 ∨ i = 1 ∨ i = 2 := by omega
      rcases this with rfl | rfl | rfl
      · exact ⟨m, rfl, R6.out⟩
      · exact ⟨m, rfl, S6.out⟩
      · exact ⟨m, rfl, T6.out⟩
    · rw [hgs]
      have : i = 0 ∨ i = 1 ∨ i = 2 := by omega
      have : j = 0 ∨ j = 1 ∨ j = 2 := by omega
      simp only
      split <;> split <;> (try split) <;> (try split) <;> omega⟩
  have HPC : Aside0 (∀ t, t < 3 → W6.cell? ⟨p, t, none⟩ = some (.slice (some ⟨gs t, 0, none⟩) m.length (cs t))) := ⟨fun t ht => by
    rw [blk_cell HPB.out, hgs, hcs]
    have : t = 0 ∨ t = 1 ∨ t = 2 := by omega
    rcases this with rfl | rfl | rfl <;> rfl⟩
  have HGS : Aside0 (∀ t, t < 3 → gs t < p ∧ gs t ≠ b ∧ w.heap.size ≤ gs t ∧ ¬ (w3.heap.size ≤ gs t ∧ gs t < w4.heap.size)) := ⟨fun t ht => by
    rw [hgs]
    have : t = 0 ∨ t = 1 ∨ t = 2 := by omega
    rcases this with rfl | rfl | rfl <;> simp <;> omega⟩
  have H7 := Aside0.mk (H6.out.upd0 hu6)
  have HB6 : Aside0 (Below w.heap.size w W6) := ⟨(U6.out.step hu6).to_below (Nat.le_refl _) (fun _ h => h.elim)⟩
  clear hW hu6 hpb hgs hcs R6 S6 T6 H6 U6 hp
  have hzw6 : w.heap.size ≤ W6.heap.size := HB6.out.size
  have HU0 : Aside0 (Upd W6 W6 (fun k => ∃ t, t < 3 ∧ k = gs t)) := ⟨Upd.refl _ _⟩
  go_loopg [58] 3 (fun g v58 wr => ∃ t : Nat, v58 = .int .i64 t ∧ t ≤ 3 ∧ 3 - t ≤ g ∧ Aside0 (Three wr m.length gs cs) ∧ Aside0 (Upd W6 wr (fun k => ∃ t, t < 3 ∧ k = gs t)))
  case atStart => exact ⟨0, rfl, by omega, by omega, HT, HU0⟩
  case round =>
    clear HT HU0
    obtain ⟨t, rfl, ht, hg, HT, HU⟩ := hrel
    by_cases hlt : t < 3
    · cases gk with
      | zero => omega
      | succ g1 =>
      have hcp : wr.cell? ⟨p, t, none⟩ = some (.slice (some ⟨gs t, 0, none⟩) m.length (cs t)) := cell_kept (HPC.out t hlt) HU.out.kept (by rintro ⟨t', ht', he⟩; have := (HGS.out t' ht').1; simp at he; omega)
      have b0 : (0 : Int) ≤ (t : Int) := by omega
      have b1 : (t : Int) < 3 := by omega
      have b2 : decide ((t : Int) < 3) = true := by rw [decide_eq_true_eq]; omega
      go_wp2_with fail
      go_loopg [64] m.length (fun g v64 wi => ∃ s : Nat, v64 = .int .i64 s ∧ s ≤ m.length ∧ m.length - s ≤ g ∧ Aside0 (Three wi m.length gs cs) ∧ Aside0 (Upd W6 wi (fun k => ∃ t, t < 3 ∧ k = gs t)))
      case atStart => exact ⟨0, rfl, by omega, by omega, HT, HU⟩
      case round =>
        clear HT HU hcp
        obtain ⟨s, rfl, hs, hgs', HT, HU⟩ := hrel
        by_cases hlt2 : s < m.length
        · cases gk with
          | zero => omega
          | succ g2' =>
          obtain ⟨v, hcell, hfr, hnext⟩ := HT.out.cell t s hlt hlt2
          have HNX := Aside0.mk (hnext (IntKind.u32.wrap (v + 1)))
          have HUX := Aside0.mk (HU.out.setCell (p := ⟨gs t, s, none⟩) (.inl ⟨t, hlt, rfl⟩) (.int .u32 (IntKind.u32.wrap (v + 1))))
          have d0 : (0 : Int) ≤ (s : Int) := by omega
          have d1 : (s : Int) < (m.length : Int) := by omega
          have d2 : decide ((s : Int) < (m.length : Int)) = true := by rw [decide_eq_true_eq]; omega
          clear hnext
          go_wp2_with fail
          go_roundg g2'
          case rel => exact ⟨s + 1, by go_num, by omega, by omega, HNX, HUX⟩
          case measure => omega
        · have d2 : decide ((s : Int) < (m.length : Int)) = false := by rw [decide_eq_false_iff_not]; omega
          have d3 : (m.length : Int) ≤ (s : Int) := by omega
          go_wp2_with fail
          go_roundg g1
          case rel => exact ⟨t + 1, by go_num, by omega, by omega, HT, HU⟩
          case measure => omega
    · have b2 : decide ((t : Int) < 3) = false := by rw [decide_eq_false_iff_not]; omega
      have b3 : (3 : Int) ≤ (t : Int) := by omega
      have HA := Aside0.mk (H7.out.upd' HU.out (fun k hk _ h => by
        obtain ⟨t', ht', rfl⟩ := h
        obtain ⟨h1, h2, h3, h4⟩ := HGS.out t' ht'
        exact hk.elim h2 h4))
      have HBr := Aside0.mk (HB6.out.upd (by omega) HU.out (fun k hk => by
        obtain ⟨t', ht', rfl⟩ := hk
        exact (HGS.out t' ht').2.2.1))
      have hzr := HU.out.size
      clear HU HT H7
      go_wp2_with fail
      refine (shown_yes wr _ b 32 m [] HA.out (by omega)).mono ?_
      rintro e wa ⟨va, rfl, hra, hua⟩
      obtain ⟨Aa, ca, rfl⟩ := Kd.R_slice hra
      have HBa := Aside0.mk (HBr.out.upd (by omega) hua (fun _ h => h.elim))
      have HRa := Aside0.mk (Kd.R_reads' hra).2.2
      have hza := hua.size
      clear hra hua
      go_wp2_with fail
      refine (SameU.same_calls Aa ca m A0 c0 m wa HRa.out (Kd.C_below HR.out HBa.out)).mono ?_
      rw [show eqB m m = true by simp [eqB]]
      rintro e we ⟨rfl, hq⟩
      have HBe := Aside0.mk (HBa.out.upd (by omega) (Upd.of_q hq) (fun _ h => h.elim))
      clear hq
      go_wp2_with fail
      go_ret
      exact ⟨rfl, HBe.out⟩
end Go.Proofs.Ytdmhlfjocajinaa.BdKeeps
