import Derived.Test.YtnnoeomjamlhbaaRingLs
set_option linter.unusedVariables false
set_option linter.unusedSimpArgs false
namespace Go.Proofs.Ytnnoeomjamlhbaa.RingActs
attribute [local go_sem ↓] Go.wp_at_zero Go.wp_at_succ
open Go.RowKit Go.Proofs.YtnnoeomjamlhbaaW.PrintWords Go.Proofs.Ytnnoeomjamlhbaa.Own Go.Proofs.Ytnnoeomjamlhbaa.SlU Go.Proofs.Ytnnoeomjamlhbaa.Ring Go.Proofs.Ytnnoeomjamlhbaa.RingQ Go.Proofs.Ytnnoeomjamlhbaa.RingTold Go.Proofs.Ytnnoeomjamlhbaa.RingAll Go.Proofs.Ytnnoeomjamlhbaa.RingClr Go.Proofs.Ytnnoeomjamlhbaa.RingSt Go.Proofs.Ytnnoeomjamlhbaa.RingDo Go.Proofs.Ytnnoeomjamlhbaa.RingLs

set_option maxRecDepth 20000 in
set_option maxHeartbeats 8000000 in
theorem walk (r0 w0 : Int) (A0 : Option Addr) (c0 : Nat) (ops : List (Int × List Int)) (w : World) (_ : (Lit.int .i64 r0).wf = true) (_ : (Lit.int .i64 w0).wf = true) (hr : opk.C w A0 ops.length ops) (hc : ops.length ≤ c0) (_ : ∀ y ∈ ops, (Lit.int .i64 y.1).wf = true ∧ ∀ z ∈ y.2, (Lit.int .u32 z).wf = true) :
    Calls Try.prog 6 #[.int .i64 r0, .int .i64 w0, .slice A0 ops.length c0] w fun e w' => e = .returned (.bool true) ∧ Below w.heap.size w w' := by
  have HR := Aside0.mk hr
  have hm := Kd.C_max hr
  clear hr
  have hu34 := Try.underlying43
  have hu38 := Try.underlying49
  go_enter Try.func6, Try.ntmps6
  go_wp2_with fail
  refine (begin_calls r0 w0 w).mono ?_
  rintro e w1 ⟨n, mm, b, rfl, hnm, hb, h1, hu1⟩
  have H1 := Aside0.mk h1.bound
  have U1 := Aside0.mk hu1
  have hz1 := hu1.size
  clear h1 hu1
  go_wp2_with fail
  obtain ⟨W2, hW2⟩ : ∃ W2, W2 = w1.alloc (.cells #[.int .i64 n, .int .i64 mm, .slice none 0 0] 43) := ⟨_, rfl⟩
  rw [← hW2]
  have hs2 : W2.heap.size = w1.heap.size + 1 := by rw [hW2]; simp
  have hS : LS w W2 b w1.heap.size n mm [] := ⟨none, 0, fun k => w.heap.size ≤ k ∧ k < w1.heap.size, fun _ => False, ⟨H1.out.upd0 (by rw [hW2]; exact (Upd.refl _ _).alloc _), Kd.V_nil _ _ _ _ _, fun _ _ h => h⟩, by rw [hW2]; exact heap_alloc_new _ _, fun h => by omega, fun h => h, fun k hk => hk.1, fun _ h => h.elim, hz1, (U1.out.step (by rw [hW2]; exact (Upd.refl _ _).alloc _)).to_below (Nat.le_refl _) (fun _ h => h.elim)⟩
  obtain ⟨p, hp⟩ : ∃ p, p = w1.heap.size := ⟨_, rfl⟩
  rw [← hp] at hS ⊢
  have HS := Aside0.mk hS
  clear hS hW2 H1 U1 hp hs2 hz1
  refine (told_calls W2).mono ?_
  rintro e w2 ⟨rfl, hu2⟩
  have HS2 : Aside0 (LS w w2 b p n mm []) := ⟨HS.out.upd hu2⟩
  clear hu2 HS
  go_wp2_with fail
  go_loopg [9] ops.length (fun g i wr => ∃ (j : Nat) (q : List (List Int)), i = .int .i64 j ∧ j ≤ ops.length ∧ j ≤ 120 ∧ ops.length - j ≤ g ∧ Aside0 (LS w wr b p n mm q))
  case atStart => exact ⟨0, [], rfl, Nat.zero_le _, Nat.zero_le _, by omega, HS2⟩
  case round =>
    clear HS2
    obtain ⟨j, q, rfl, hj, hj120, hg, HS⟩ := hrel
    by_cases hlt : j < ops.length ∧ j < 120
    · obtain ⟨hlt, hlt2⟩ := hlt
      cases gk with
      | zero => omega
      | succ g1 =>
      have b0 : (0 : Int) ≤ (j : Int) := by omega
      have b1 : (j : Int) < (ops.length : Int) := by omega
      have b2 : (j : Int) < 120 := by omega
      have e1 : decide ((j : Int) < (ops.length : Int)) = true := by rw [decide_eq_true_eq]; omega
      have e2 : decide ((j : Int) < 120) = true := by rw [decide_eq_true_eq]; omega
      go_upto_region 7 with fail
      obtain ⟨ad, Am, cm, rfl, hc0, hc1, hmc, hmC⟩ := op_at HR.out j hlt
      obtain ⟨A, c, F, G, h2, hp, hpF, hpG, hF, hG, hwp, hbw⟩ := HS.out
      obtain ⟨kd, m, hop⟩ : ∃ kd m, ops[j] = (kd, m) := ⟨_, _, rfl⟩
      rw [hop] at hc0 hc1 hmc hmC
      have d0 := pw_cell_below hbw hc0
      have d1 := pw_cell_below hbw hc1
      have p0 := (blk_cell hp 0).trans rfl
      have p1 := (blk_cell hp 1).trans rfl
      have p2 := (blk_cell hp 2).trans rfl
      have hpl : p < wr.heap.size := blk_lt hp
      obtain ⟨q2, hq2l, hdo⟩ := LS.do (w := w) (wr := wr) (b := b) (p := p) (room := n) (words := mm) (q := q) (A := A) (c := c) (F := F) (G := G) kd m
      have hdo' := hdo h2 hp hpF hpG hF hG hwp hbw Am cm hmC hmc
      have HDO := Aside0.mk hdo'
      have nE : ¬ (F (ad.add (j * 2)).block ∧ (ad.add (j * 2)).block < wr.heap.size) := fun h => by
        have := hF _ h.1
        have := World.block_lt_of_cell? w _ hc0
        omega
      have nP : ¬ (F p ∧ p < wr.heap.size) := fun h => hpF h.1
      have m1 : (ad.add (j * 2)).block ≠ wr.heap.size := Nat.ne_of_lt (World.block_lt_of_cell? wr _ d0)
      have m2 : ¬ p = wr.heap.size := Nat.ne_of_lt hpl
      have NE := Aside0.mk nE
      have NP := Aside0.mk nP
      have hzw := hbw.size
      clear h2 hp hpF hpG hF hG hbw hop hc0 hc1 HS hdo hdo' hmC hmc hm nE nP
      go_cut [10, 11] (fun s10 s11 wc => ∃ r A2 c2, s10 = .pointer (some ⟨r, 0, none⟩) ∧ s11 = .bool true ∧ wc.heap[r]? = some (.cells #[.int .i64 n, .int .i64 mm, .slice A2 q2.length c2] 43 (0, 0)) ∧ ∃ lo hi, AS w wc b p n mm q q2 (.slice A2 q2.length c2) lo hi)
      case first =>
        go_region_held3 (fun w' => w'.cell? (ad.add (j * 2)) = some (.int .i64 kd) ∧ w'.cell? ⟨(ad.add (j * 2)).block, (ad.add (j * 2)).off + 1, none⟩ = some (.slice Am m.length cm) ∧ w'.cell? ⟨p, 0, none⟩ = some (.int .i64 n) ∧ w'.cell? ⟨p, 1, none⟩ = some (.int .i64 mm) ∧ w'.cell? ⟨p, 2, none⟩ = some (.slice A q.length c)) ((refine ⟨?_, ?_, ?_, ?_, ?_⟩ <;> first | go_keep | exact cell_afar3 k0 m1 | exact cell_afar3 k1 m1 | exact cell_afar3 k2 m2 | exact cell_afar3 k3 m2 | exact cell_afar3 k4 m2))
          (first
            | (go_at_call 18; refine (HDO.out _ ?_).mono ?_; (exact (Upd.refl _ _).drew); rintro e w4 ⟨A2, c2, rfl, has, hu⟩; have k0 := cell_kept d0 hu.kept NE.out; have k1 := cell_kept d1 hu.kept NE.out; have k2 := cell_kept (a := ⟨p, 0, none⟩) p0 hu.kept NP.out; have k3 := cell_kept (a := ⟨p, 1, none⟩) p1 hu.kept NP.out; have k4 := cell_kept (a := ⟨p, 2, none⟩) p2 hu.kept NP.out; have HAS := Aside0.mk has; have hz4 := hu.size; clear has hu)
            | (go_at_call 18; refine (HDO.out _ ?_).mono ?_; (exact ((Upd.refl _ _).alloc _).drew); rintro e w4 ⟨A2, c2, rfl, has, hu⟩; have k0 := cell_kept (cell_upd0 (((Upd.refl wr (fun _ => False)).alloc _).drew) d0) hu.kept NE.out; have k1 := cell_kept (cell_upd0 (((Upd.refl wr (fun _ => False)).alloc _).drew) d1) hu.kept NE.out; have k2 := cell_kept (a := ⟨p, 0, none⟩) (cell_upd0 (((Upd.refl wr (fun _ => False)).alloc _).drew) p0) hu.kept NP.out; have k3 := cell_kept (a := ⟨p, 1, none⟩) (cell_upd0 (((Upd.refl wr (fun _ => False)).alloc _).drew) p1) hu.kept NP.out; have k4 := cell_kept (a := ⟨p, 2, none⟩) (cell_upd0 (((Upd.refl wr (fun _ => False)).alloc _).drew) p2) hu.kept NP.out; have HAS := Aside0.mk has; have hz4 := hu.size; have hq : w4.heap[wr.heap.size]? = some (.cells #[.int .i64 0, .int .i64 0, .slice none 0 0] 43 (0, 0)) := (hu.block (by simp) (fun h => by omega)).trans (heap_alloc_new wr _); have q0 := (blk_cell hq 0).trans rfl; have q1 := (blk_cell hq 1).trans rfl; have q2' := (blk_cell hq 2).trans rfl; have q3 := blk_frozen hq 0; have q4 := blk_frozen hq 1; have q5 := blk_frozen hq 2; have HQ := Aside0.mk hq; clear hq has hu))
        all_goals
          go_wp2_with fail
          go_meet
          first
            | exact ⟨_, _, _, rfl, rfl, heap_alloc_new _ _, _, _, HAS.out.upd0 ((Upd.refl _ _).alloc _)⟩
            | exact ⟨_, _, _, rfl, rfl, blk_set (blk_set (blk_set HQ.out 0 _) 1 _) 2 _, _, _, HAS.out.updp ((((Upd.refl w4 (fun k => k = wr.heap.size)).setCell (.inl rfl) _).setCell (.inl rfl) _).setCell (.inl rfl) _) (by omega) m2 (Nat.le_refl _) (by simp)⟩
      case rest =>
        obtain ⟨r, A2, c2, rfl, rfl, hr, lo, hi, hAS⟩ := hcut
        have q0 := (blk_cell hr 0).trans rfl
        have q1 := (blk_cell hr 1).trans rfl
        have q2' := (blk_cell hr 2).trans rfl
        have hLS := hAS.store
        obtain ⟨A', c', F', G', _, hp, _⟩ := hAS
        have f0 := blk_frozen hp 0
        have f1 := blk_frozen hp 1
        have f2 := blk_frozen hp 2
        have g0 := (blk_cell hp 0).trans rfl
        have g1' := (blk_cell hp 1).trans rfl
        have g2 := (blk_cell hp 2).trans rfl
        have HL := Aside0.mk hLS
        clear d0 d1 p0 p1 p2 HDO NE NP m1 m2 hr hp hLS hpl hzw
        go_wp2_with fail
        obtain ⟨WC, hWC⟩ : ∃ WC, WC = (((wc.setCell ⟨p, 0, none⟩ (.int .i64 n)).setCell ⟨p, 1, none⟩ (.int .i64 mm)).setCell ⟨p, 2, none⟩ (.slice A2 q2.length c2)) := ⟨_, rfl⟩
        rw [← hWC] at HL ⊢
        clear hWC q0 q1 q2' f0 f1 f2 g0 g1' g2
        have hl := HL.out
        obtain ⟨A3, c3, F3, G3, h3, hp3, _⟩ := hl
        have c0 := (blk_cell hp3 0).trans rfl
        have c1 := (blk_cell hp3 1).trans rfl
        have c2 := (blk_cell hp3 2).trans rfl
        have HT := Aside0.mk h3
        clear h3 hp3
        have hee : ((q2.length : Int) != (q2.length : Int)) = false := by simp
        have hen : ((n : Int) != (n : Int)) = false := by simp
        have hem : ((mm : Int) != (mm : Int)) = false := by simp
        go_region_held3 (fun w' => w'.cell? ⟨p, 0, none⟩ = some (.int .i64 n) ∧ w'.cell? ⟨p, 1, none⟩ = some (.int .i64 mm) ∧ w'.cell? ⟨p, 2, none⟩ = some (.slice A3 q2.length c3)) (first | exact ⟨k3, k4, k5⟩ | exact ⟨k0, k1, k2⟩ | go_keep)
          (first
            | (go_at_call 16; refine (q_all _ _ b n mm q2 (HT.out.1.upd0 ?_)).mono ?_; exact (Upd.refl _ _).drew; rintro e w5 ⟨v5, rfl, hr5, hu5⟩; obtain ⟨A5, c5, rfl⟩ := Kd.R_slice hr5; have k0 := cell_upd0 hu5 c0; have k1 := cell_upd0 hu5 c1; have k2 := cell_upd0 hu5 c2; have HW5 := Aside0.mk (((Upd.refl WC (fun _ => False)).drew).step hu5); have HR5 := Aside0.mk hr5; clear hr5 hu5)
            | (go_at_call 19; refine (sameall_calls _ _ q2 _ _ q2 _ (Kd.R_reads' HR5.out).2.2 (Kd.R_reads' HR5.out).2.1 (Kd.V_reads' (Kd.V_kept HT.out.2.1 HW5.out.kept (fun _ _ h => h))).2.2 (Kd.V_reads' (Kd.V_kept HT.out.2.1 HW5.out.kept (fun _ _ h => h))).2.1).mono ?_; rw [show eqLB q2 q2 = true by simp [eqLB]]; rintro e w6 ⟨rfl, hu6⟩; have k3 := cell_upd0 hu6 k0; have k4 := cell_upd0 hu6 k1; have k5 := cell_upd0 hu6 k2; have HW6 := Aside0.mk (HW5.out.step hu6); clear hu6)
            | (go_at_call 14; refine (q_len _ _ b n mm q2 (HT.out.1.upd0 ?_)).mono ?_; (first | exact HW6.out | exact HW5.out); rintro e w7 ⟨rfl, rfl⟩)
            | (go_at_call 20; refine (q_room _ _ b n mm q2 (HT.out.1.upd0 ?_)).mono ?_; (first | exact HW6.out | exact HW5.out); rintro e w7 ⟨rfl, rfl⟩)
            | (go_at_call 21; refine (q_words _ _ b n mm q2 (HT.out.1.upd0 ?_)).mono ?_; (first | exact HW6.out | exact HW5.out); rintro e w7 ⟨rfl, rfl⟩))
        go_wp2_with fail
        go_roundg g1
        case rel => exact ⟨j + 1, q2, by go_num, by omega, by omega, by omega, ⟨HL.out.upd HW6.out⟩⟩
        case measure => omega
    · obtain ⟨A, c, F, G, h2, hp, hpF, hpG, hF, hG, hwp, hbw⟩ := HS.out
      have HB := Aside0.mk hbw
      clear h2 hp hpF hpG hF hG hbw HS
      by_cases hlt1 : j < ops.length
      · have e1 : decide ((j : Int) < (ops.length : Int)) = true := by rw [decide_eq_true_eq]; omega
        have e2 : decide ((j : Int) < 120) = false := by rw [decide_eq_false_iff_not]; omega
        have e3 : (120 : Int) ≤ (j : Int) := by omega
        have e4 : (j : Int) < (ops.length : Int) := by omega
        go_wp2_with fail
        go_ret
        exact ⟨rfl, HB.out⟩
      · have e1 : decide ((j : Int) < (ops.length : Int)) = false := by rw [decide_eq_false_iff_not]; omega
        have e3 : (ops.length : Int) ≤ (j : Int) := by omega
        go_wp2_with fail
        go_ret
        exact ⟨rfl, HB.out⟩
end Go.Proofs.Ytnnoeomjamlhbaa.RingActs
