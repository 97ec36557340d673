import Derived.Test.YtfmbpiimadljkaaEvDo
import Derived.Deep.RegionWith
set_option linter.unusedVariables false
set_option linter.unusedSimpArgs false
namespace Go.Proofs.Ytfmbpiimadljkaa.EvActs
attribute [local go_sem ↓] Go.wp_at_zero Go.wp_at_succ
open Go.RowKit Go.Proofs.YtfmbpiimadljkaaW.PrintWords Go.Proofs.Ytfmbpiimadljkaa.Own Go.Proofs.Ytfmbpiimadljkaa.Ev Go.Proofs.Ytfmbpiimadljkaa.SlI Go.Proofs.Ytfmbpiimadljkaa.EvDrop Go.Proofs.Ytfmbpiimadljkaa.EvRef Go.Proofs.Ytfmbpiimadljkaa.EvCl Go.Proofs.Ytfmbpiimadljkaa.EvDo

theorem Two.upd0 {w w1 : World} {F G : Nat → Prop} {b : Nat} {up : Bool} {v : Value} {l : List Int} (h : Two w F G b up v l) (hu : Upd w w1 (fun _ => False)) : Two w1 F G b up v l := ⟨h.1.upd0 hu, R_upd0 h.2.1 hu, h.2.2⟩
theorem Two.bound {w : World} {F G : Nat → Prop} {b : Nat} {up : Bool} {v : Value} {l : List Int} (h : Two w F G b up v l) : Two w (fun k => F k ∧ k < w.heap.size) (fun k => G k ∧ k < w.heap.size) b up v l :=
  ⟨h.1.bound, Kd.R_mono (Kd.R_bound h.2.1) (fun k hk => ⟨hk.1, hk.2.2.1⟩), fun k hk hg => h.2.2 k hk.1 hg.1⟩

/-- The Event, the document's beside it in the variable at block p. -/
def LS (w wr : World) (b p : Nat) (up : Bool) (l : List Int) : Prop :=
  ∃ A c F G, Two wr F G b up (.slice A l.length c) l ∧ wr.heap[p]? = some (.cells #[.bool up, .slice A l.length c] 34 (0, 0)) ∧ ¬ F p ∧ ¬ G p ∧ (∀ k, F k → w.heap.size ≤ k) ∧ (∀ k, G k → w.heap.size ≤ k) ∧ w.heap.size ≤ p ∧ Below w.heap.size w wr

theorem LS.upd {w wr w1 : World} {b p : Nat} {up : Bool} {l : List Int} (h : LS w wr b p up l) (hu : Upd wr w1 (fun _ => False)) : LS w w1 b p up l := by
  obtain ⟨A, c, F, G, h2, hp, hpF, hpG, hF, hG, hwp, hbw⟩ := h
  exact ⟨A, c, F, G, Two.upd0 h2 hu, (hu.block (blk_lt hp) (fun h => h)).trans hp, hpF, hpG, hF, hG, hwp, hbw.upd hbw.size hu (fun _ h => h.elim)⟩

theorem step_len (k : Nat) (id : Int) (up : Bool) (l : List Int) : (stepE k id up l).2.length ≤ l.length + 1 := by
  unfold stepE
  split
  · simp
  · split
    · simp
    · split
      · unfold waitL
        split
        · simp
        · split <;> simp
      · have := without_len l id
        show (without l id).length ≤ _
        omega
theorem step_up (k : Nat) (id : Int) (up : Bool) (l : List Int) (h : up = true → l = []) : (stepE k id up l).1 = true → (stepE k id up l).2 = [] := by
  unfold stepE
  split
  · intro _; rfl
  · split
    · intro h; cases h
    · split
      · intro hu
        have := h hu
        simp only at hu
        unfold waitL
        rw [if_pos hu]
        exact this
      · intro hu
        have := h hu
        simp only [this]
        rfl

/-- Behind 'next, ok := do(e, w, op)': the new one in the variable at block q. -/
def AS (w wr : World) (b p q : Nat) (up up2 : Bool) (l l2 : List Int) : Prop :=
  ∃ A c A2 c2 F G, Two wr F G b up2 (.slice A2 l2.length c2) l2 ∧ wr.heap[p]? = some (.cells #[.bool up, .slice A l.length c] 34 (0, 0)) ∧ wr.heap[q]? = some (.cells #[.bool up2, .slice A2 l2.length c2] 34 (0, 0)) ∧ ¬ F p ∧ ¬ G p ∧ (∀ k, F k → w.heap.size ≤ k) ∧ (∀ k, G k → w.heap.size ≤ k) ∧ w.heap.size ≤ p ∧ Below w.heap.size w wr ∧ p ≠ q

set_option maxRecDepth 20000 in
set_option maxHeartbeats 8000000 in
theorem walk (A0 : Option Addr) (c0 : Nat) (ops : List (Int × Int)) (w : World) (hr : (Kd.pair ints ints).C w A0 ops.length ops) (hc : ops.length ≤ c0) (_ : ∀ y ∈ ops, (Lit.int .i64 y.1).wf = true ∧ (Lit.int .i64 y.2).wf = true) :
    Calls Try.prog 5 #[.slice A0 ops.length c0] w fun e w' => e = .returned (.bool true) ∧ Below w.heap.size w w' := by
  have HR := Aside0.mk hr
  have hm := Kd.C_max hr
  clear hr
  have hu34 := Try.underlying34
  have hu38 := Try.underlying38
  go_enter Try.func5, Try.ntmps5
  go_wp2_with fail
  refine (new_calls w).mono ?_
  rintro e w1 ⟨rfl, ha1, hu1⟩
  have A1 := Aside0.mk ha1
  have U1 := Aside0.mk hu1
  clear ha1 hu1
  go_wp2_with fail
  refine (told_calls w1).mono ?_
  rintro e w2 ⟨rfl, hu2⟩
  have A2 := Aside0.mk (A1.out.bound.upd0 hu2)
  have U2 := Aside0.mk (U1.out.step hu2)
  have hz12 := hu2.size
  have hzw := U1.out.size
  have hb1 := A1.out.lt
  clear A1 U1 hu2
  go_wp2_with fail
  have hS : LS w (w2.alloc (.cells #[.bool false, .slice none 0 0] 34)) w.heap.size w2.heap.size false [] :=
    ⟨none, 0, _, fun _ => False, ⟨A2.out.alloc _, Kd.R_nil _ _ _ _ _, fun _ _ h => h⟩, heap_alloc_new w2 _, fun h => by omega, fun h => h, fun k hk => hk.1, fun _ h => h.elim, by omega, (U2.out.alloc _).to_below (Nat.le_refl _) (fun _ h => h.elim)⟩
  have HS := Aside0.mk hS
  clear hS
  go_loopg [5] ops.length (fun g i wr => ∃ (j : Nat) (up : Bool) (l : List Int), i = .int .i64 j ∧ j ≤ ops.length ∧ j ≤ 120 ∧ ops.length - j ≤ g ∧ l.length ≤ j ∧ Aside0 (up = true → l = []) ∧ Aside0 (LS w wr w.heap.size w2.heap.size up l))
  case atStart => exact ⟨0, false, [], rfl, Nat.zero_le _, Nat.zero_le _, by omega, by simp, ⟨fun h => by cases h⟩, HS⟩
  case round =>
    clear HS
    obtain ⟨j, up, l, rfl, hj, hj120, hg, hl, H0, HS⟩ := hrel
    by_cases hlt : j < ops.length ∧ j < 120
    · obtain ⟨hlt, hlt2⟩ := hlt
      cases gk with
      | zero => omega
      | succ g1 =>
      have b0 : (0 : Int) ≤ (j : Int) := by omega
      have b1 : (j : Int) < (ops.length : Int) := by omega
      have b2 : (j : Int) < 120 := by omega
      have e1 : decide ((j : Int) < (ops.length : Int)) = true := by rw [decide_eq_true_eq]; omega
      have e2 : decide ((j : Int) < 120) = true := by rw [decide_eq_true_eq]; omega
      go_upto_region 8 with fail
      obtain ⟨ad, rfl, hc0, hc1⟩ := ints2_at HR.out j hlt
      obtain ⟨A, c, F, G, h2, hp, hpF, hpG, hF, hG, hwp, hbw⟩ := HS.out
      obtain ⟨kd, id, hop⟩ : ∃ kd id, ops[j] = (kd, id) := ⟨_, _, rfl⟩
      rw [hop] at hc0 hc1
      have d0 := pw_cell_below hbw hc0
      have d1 := pw_cell_below hbw hc1
      have p0 : wr.cell? ⟨w2.heap.size, 0, none⟩ = some (.bool up) := blk_cell hp 0
      have p1 : wr.cell? ⟨w2.heap.size, 1, none⟩ = some (.slice A l.length c) := blk_cell hp 1
      have hpl : w2.heap.size < wr.heap.size := blk_lt hp
      have H2 := Aside0.mk (Two.bound h2)
      have HP := Aside0.mk hp
      have HPF := Aside0.mk hpF
      have HPG := Aside0.mk hpG
      have HF := Aside0.mk hF
      have HG := Aside0.mk hG
      have HBw := Aside0.mk hbw
      have HWP := hwp
      have nE : ¬ (F (ad.add (j * 2)).block ∧ (ad.add (j * 2)).block < wr.heap.size) := fun h => by
        have := hF _ h.1
        have := World.block_lt_of_cell? w _ hc0
        omega
      have nP : ¬ (F w2.heap.size ∧ w2.heap.size < wr.heap.size) := fun h => hpF h.1
      have m1 : (ad.add (j * 2)).block ≠ wr.heap.size := Nat.ne_of_lt (World.block_lt_of_cell? wr _ d0)
      have m2 : w2.heap.size ≠ wr.heap.size := Nat.ne_of_lt hpl
      have NE := Aside0.mk nE
      have NP := Aside0.mk nP
      clear h2 hp hpF hpG hF hG hbw hop hc0 hc1 HS
      have hz0 := HBw.out.size
      obtain ⟨k, hk4, hdo⟩ : ∃ k : Nat, k < 4 ∧ ∀ X, Upd wr X (fun _ => False) → Calls Try.prog 20 #[.pointer (some ⟨w.heap.size, 0, none⟩), .agg #[.bool up, .slice A l.length c], .agg #[.int .i64 kd, .int .i64 id]] X (fun e w4 => ∃ A2 c2, e = .returned (.tuple #[.agg #[.bool (stepE k id up l).1, .slice A2 (stepE k id up l).2.length c2], .bool true]) ∧ (wr.heap.size < X.heap.size → w4.heap[wr.heap.size]? = X.heap[wr.heap.size]?) ∧ X.heap.size ≤ w4.heap.size ∧ (∀ a u, wr.cell? a = some u → ¬ (F a.block ∧ a.block < wr.heap.size) → w4.cell? a = some u) ∧
          ∀ Y q, Upd w4 Y (fun k => k = q) → (q = wr.heap.size ∧ wr.heap.size < X.heap.size ∨ w4.heap.size ≤ q) → Y.heap[q]? = some (.cells #[.bool (stepE k id up l).1, .slice A2 (stepE k id up l).2.length c2] 34 (0, 0)) → AS w Y w.heap.size w2.heap.size q up (stepE k id up l).1 l (stepE k id up l).2) := by
        obtain ⟨k, hk4, hd⟩ := do_calls kd
        refine ⟨k, hk4, fun X hX => ?_⟩
        refine (hd X _ _ _ up _ l id (Two.upd0 H2.out hX) (by omega)).mono ?_
        rintro e w4 ⟨v4, F4, G4, rfl, h4, hF4, hG4, hu4⟩
        obtain ⟨A2, c2, rfl⟩ := Kd.R_slice h4.2.1
        have hzX := hX.size
        have hz4 := hu4.size
        refine ⟨A2, c2, rfl, fun hlt => hu4.block hlt (fun h => by omega), hz4, fun a u ha hn => cell_kept (cell_upd0 hX ha) hu4.kept hn, fun Y q hY hq hYq => ?_⟩
        have hnF : ∀ k, F4 k → k < w4.heap.size → ¬ k = q := fun k hk hlt e => by
          have := hF4 k hk
          omega
        have hnG : ∀ k, G4 k → k < w4.heap.size → ¬ k = q := fun k hk hlt e => by
          have := hG4 k hk
          omega
        have hzY := hY.size
        have hnp : w2.heap.size ≠ q := by omega
        refine ⟨A, c, A2, c2, fun k => F4 k ∧ k < w4.heap.size, fun k => G4 k ∧ k < w4.heap.size, ⟨h4.1.upd hY hnF, R_upd h4.2.1 hY hnG, fun k hk hg => h4.2.2 k hk.1 hg.1⟩, ?_, hYq, ?_, ?_, ?_, ?_, HWP, ?_, hnp⟩
        · rw [hY.block (by omega) hnp, hu4.block (by omega) (fun h => HPF.out h.1), hX.block hpl (fun h => h)]
          exact HP.out
        · intro h
          rcases hF4 _ h.1 with h' | h'
          · exact HPF.out h'.1
          · omega
        · intro h
          rcases hG4 _ h.1 with h' | h'
          · exact HPG.out h'.1
          · omega
        · intro k hk
          rcases hF4 _ hk.1 with h' | h'
          · exact HF.out k h'.1
          · omega
        · intro k hk
          rcases hG4 _ hk.1 with h' | h'
          · exact HG.out k h'.1
          · omega
        · have hb1' := (HBw.out.upd hz0 hX (fun _ h => h.elim)).upd (by omega) hu4 (fun k hk => HF.out k hk.1)
          exact hb1'.upd (by omega) hY (fun k hk => by rw [hk]; omega)
      have HDO := Aside0.mk hdo
      clear hdo
      have hlen := step_len k id up l
      have hup := step_up k id up l H0.out
      obtain ⟨up2, l2, hst⟩ : ∃ up2 l2, stepE k id up l = (up2, l2) := ⟨_, _, rfl⟩
      rw [hst] at HDO hlen hup
      have H0' := Aside0.mk hup
      clear hup hst H0
      simp only at HDO hlen
      go_cut [6, 7] (fun s6 s7 wc => ∃ q, s6 = .pointer (some ⟨q, 0, none⟩) ∧ s7 = .bool true ∧ AS w wc w.heap.size w2.heap.size q up up2 l l2)
      case first =>
        go_region_held3 (fun w' => w'.cell? (ad.add (j * 2)) = some (.int .i64 kd) ∧ w'.cell? ⟨(ad.add (j * 2)).block, (ad.add (j * 2)).off + 1, none⟩ = some (.int .i64 id) ∧ w'.cell? ⟨w2.heap.size, 0, none⟩ = some (.bool up) ∧ w'.cell? ⟨w2.heap.size, 1, none⟩ = some (.slice A l.length c)) ((refine ⟨?_, ?_, ?_, ?_⟩ <;> first | go_keep | exact cell_afar2 k0 m1 | exact cell_afar2 k1 m1 | exact cell_afar2 k2 m2 | exact cell_afar2 k3 m2))
          (first
            | (go_at_call 20; refine (HDO.out _ ?_).mono ?_; (exact (Upd.refl _ _).drew); rintro e w4 ⟨A2, c2, rfl, hm, hz4, hcl, hy⟩; have k0 := hcl _ _ d0 NE.out; have k1 := hcl _ _ d1 NE.out; have k2 := hcl _ _ p0 NP.out; have k3 := hcl _ _ p1 NP.out; have HY := Aside0.mk hy; clear hm hcl hy)
            | (go_at_call 20; refine (HDO.out _ ?_).mono ?_; (exact ((Upd.refl _ _).alloc _).drew); rintro e w4 ⟨A2, c2, rfl, hm, hz4, hcl, hy⟩; have hq : w4.heap[wr.heap.size]? = some (.cells #[.bool false, .slice none 0 0] 34 (0, 0)) := (hm (by simp)).trans (heap_alloc_new wr _); have q0 : w4.cell? ⟨wr.heap.size, 0, none⟩ = some (.bool false) := blk_cell hq 0; have q1 : w4.cell? ⟨wr.heap.size, 1, none⟩ = some (.slice none 0 0) := blk_cell hq 1; have q2 := blk_frozen hq 0; have q3 := blk_frozen hq 1; have HQ := Aside0.mk hq; clear hq; have k0 := hcl _ _ d0 NE.out; have k1 := hcl _ _ d1 NE.out; have k2 := hcl _ _ p0 NP.out; have k3 := hcl _ _ p1 NP.out; have HY := Aside0.mk hy; clear hm hcl hy))
        · go_wp2_with fail
          go_meet
          exact ⟨_, rfl, rfl, HY.out _ _ ((Upd.refl _ _).alloc _) (.inr (Nat.le_refl _)) (heap_alloc_new _ _)⟩
        · go_wp2_with fail
          go_meet
          exact ⟨_, rfl, rfl, HY.out _ _ (((Upd.refl w4 (fun k => k = wr.heap.size)).setCell (.inl rfl) _).setCell (.inl rfl) _) (.inl ⟨rfl, by simp⟩) (blk_set (blk_set HQ.out 0 _) 1 _)⟩
      case rest =>
        obtain ⟨q, rfl, rfl, hAS⟩ := hcut
        clear d0 d1 p0 p1 H2 HP HPF HPG HF HG HBw nE nP m1 m2 NE NP HDO
        obtain ⟨A', c', A2, c2, F', G', h2, hp, hq, hpF, hpG, hF, hG, _, hbw, hpq⟩ := hAS
        have q0 := blk_cell hq 0
        have q1 := blk_cell hq 1
        have p2 := blk_frozen hp 0
        have p3 := blk_frozen hp 1
        have p4 := blk_cell hp 0
        have p5 := blk_cell hp 1
        have HPQ := Aside0.mk hpq
        have HP := Aside0.mk hp
        go_wp2_with fail
        obtain ⟨WC, hWC⟩ : ∃ WC, WC = ((wc.setCell ⟨w2.heap.size, 0, none⟩ (.bool up2)).setCell ⟨w2.heap.size, 1, none⟩ (.slice A2 l2.length c2)) := ⟨_, rfl⟩
        rw [← hWC]
        have hPC : WC.heap[w2.heap.size]? = some (.cells #[.bool up2, .slice A2 l2.length c2] 34 (0, 0)) := by
          rw [hWC]
          exact blk_set (blk_set HP.out 0 _) 1 _
        have hUC : Upd wc WC (fun k => k = w2.heap.size) := by
          rw [hWC]
          exact ((Upd.refl wc (fun k => k = w2.heap.size)).setCell (.inl rfl) _).setCell (.inl rfl) _
        clear hWC
        have hT : Two WC (fun k => F' k ∧ k < wc.heap.size) (fun k => G' k ∧ k < wc.heap.size) w.heap.size up2 (.slice A2 l2.length c2) l2 :=
          ⟨h2.1.upd hUC (fun k hk _ h => hpF (h ▸ hk)), R_upd h2.2.1 hUC (fun k hk _ h => hpG (h ▸ hk)), fun k hk hg => h2.2.2 k hk.1 hg.1⟩
        have hzc := hbw.size
        have hBC : Below w.heap.size w WC := hbw.upd hzc hUC (fun k hk => by rw [hk]; exact HWP)
        have hpF' : ¬ (F' w2.heap.size ∧ w2.heap.size < wc.heap.size) := fun h => hpF h.1
        have hpG' : ¬ (G' w2.heap.size ∧ w2.heap.size < wc.heap.size) := fun h => hpG h.1
        have hLS : LS w WC w.heap.size w2.heap.size up2 l2 := ⟨A2, c2, _, _, hT, hPC, hpF', hpG', fun k hk => hF k hk.1, fun k hk => hG k hk.1, HWP, hBC⟩
        have c0 : WC.cell? ⟨w2.heap.size, 0, none⟩ = some (.bool up2) := blk_cell hPC 0
        have c1 : WC.cell? ⟨w2.heap.size, 1, none⟩ = some (.slice A2 l2.length c2) := blk_cell hPC 1
        have HT := Aside0.mk hT
        have HL := Aside0.mk hLS
        have H0 := Aside0.mk (show up2 = true → l2 = [] from H0'.out)
        clear q0 q1 p2 p3 p4 p5 HP h2 hp hq hpF hpG hF hG hbw hpq hPC hUC hT hBC hpF' hpG' hLS HPQ H0'
        have hll : l2.length ≤ 1000000 := by omega
        have hin : up2 = true → ¬ (0 : Int) < (l2.length : Int) := fun h => by rw [H0.out h]; simp
        cases up2 with
        | false =>
          clear hin
          first | go_region_with
            (first
              | (go_at_call 19; refine (up_calls _ _ _ _ _ (HT.out.1.upd0 ?_)).mono ?_; (first | exact (Upd.refl _ _).drew | exact HW5.out | exact HW6.out); rintro e w4 ⟨rfl, rfl⟩)
              | (go_at_call 16; refine (waiting_calls _ _ _ _ _ (HT.out.1.upd0 ?_) hll).mono ?_; exact (Upd.refl _ _).drew; rintro e w5 ⟨v5, rfl, hr5, hu5⟩; obtain ⟨A5, c5, rfl⟩ := Kd.R_slice hr5; have k0 := cell_upd0 hu5 c0; have k1 := cell_upd0 hu5 c1; have HW5 := Aside0.mk (((Upd.refl WC (fun _ => False)).drew).step hu5); have HR5 := Aside0.mk hr5; clear hr5 hu5)
              | (go_at_call 15; refine (SameR.same_calls _ _ l2 _ _ l2 _ (Kd.R_reads' HR5.out).2.2 (Kd.R_reads' (R_upd0 HT.out.2.1 HW5.out)).2.2).mono ?_; rw [show eqB l2 l2 = true by simp [eqB]]; rintro e w6 ⟨rfl, q6, rfl⟩; have HW6 := Aside0.mk (HW5.out.drewN q6))) | fail
          all_goals
            simp only [Act.put, List.setIfInBounds_toArray, List.set_cons_zero, List.set_cons_succ]
            go_wp2_with fail
            go_roundg g1
            case rel => exact ⟨j + 1, false, l2, by go_num, by omega, by omega, by omega, by omega, ⟨fun h => by cases h⟩, ⟨HL.out.upd HW6.out⟩⟩
            case measure => omega
        | true =>
          have h0 := H0.out rfl
          clear hin
          subst h0
          have c1' : WC.cell? ⟨w2.heap.size, 1, none⟩ = some (.slice A2 0 c2) := c1
          clear c1
          go_region_held3 (fun w' => w'.cell? ⟨w2.heap.size, 0, none⟩ = some (.bool true) ∧ w'.cell? ⟨w2.heap.size, 1, none⟩ = some (.slice A2 0 c2)) (first | go_keep | exact ⟨k0, k1⟩)
            (first
              | (go_at_call 19; refine (up_calls _ _ _ _ _ (HT.out.1.upd0 ?_)).mono ?_; (first | exact (Upd.refl _ _).drew | exact HW5.out | exact HW6.out); rintro e w4 ⟨rfl, rfl⟩)
              | (go_at_call 16; refine (waiting_calls _ _ _ _ _ (HT.out.1.upd0 ?_) hll).mono ?_; exact (Upd.refl _ _).drew; rintro e w5 ⟨v5, rfl, hr5, hu5⟩; obtain ⟨A5, c5, rfl⟩ := Kd.R_slice hr5; have k0 := cell_upd0 hu5 c0; have k1 := cell_upd0 hu5 c1'; have HW5 := Aside0.mk (((Upd.refl WC (fun _ => False)).drew).step hu5); have HR5 := Aside0.mk hr5; clear hr5 hu5)
              | (go_at_call 15; refine (SameR.same_calls _ _ ([] : List Int) _ _ [] _ (Kd.R_reads' HR5.out).2.2 (Kd.R_reads' (R_upd0 HT.out.2.1 HW5.out)).2.2).mono ?_; rw [show eqB [] [] = true by simp [eqB]]; rintro e w6 ⟨rfl, q6, rfl⟩; have HW6 := Aside0.mk (HW5.out.drewN q6)))
          go_wp2_with fail
          go_roundg g1
          case rel => exact ⟨j + 1, true, [], by go_num, by omega, by omega, by omega, by simp, ⟨fun h => rfl⟩, ⟨HL.out.upd HW6.out⟩⟩
          case measure => omega
    · obtain ⟨A, c, F, G, h2, hp, hpF, hpG, hF, hG, hwp, hbw⟩ := HS.out
      have HB := Aside0.mk hbw
      clear h2 hp hpF hpG hF hG hbw HS
      by_cases hlt1 : j < ops.length
      · have e1 : decide ((j : Int) < (ops.length : Int)) = true := by rw [decide_eq_true_eq]; omega
        have e2 : decide ((j : Int) < 120) = false := by rw [decide_eq_false_iff_not]; omega
        have e3 : (120 : Int) ≤ (j : Int) := by omega
        have e4 : (j : Int) < (ops.length : Int) := by omega
        go_wp2_with fail
        go_ret
        exact ⟨rfl, HB.out⟩
      · have e1 : decide ((j : Int) < (ops.length : Int)) = false := by rw [decide_eq_false_iff_not]; omega
        have e3 : (ops.length : Int) ≤ (j : Int) := by omega
        go_wp2_with fail
        go_ret
        exact ⟨rfl, HB.out⟩
end Go.Proofs.Ytfmbpiimadljkaa.EvActs
