import Derived.Test.YtdmhlfjocajinaaBdSp
import Derived.Test.YtdmhlfjocajinaaOwn3
set_option linter.unusedVariables false
set_option linter.unusedSimpArgs false
namespace Go.Proofs.Ytdmhlfjocajinaa.BdTurns
attribute [local go_sem ↓] Go.wp_at_zero Go.wp_at_succ
open Go.RowKit Go.Proofs.YtdmhlfjocajinaaW.PrintWords Go.Proofs.Ytdmhlfjocajinaa.Own Go.Proofs.Ytdmhlfjocajinaa.Own2 Go.Proofs.Ytdmhlfjocajinaa.Own3 Go.Proofs.Ytdmhlfjocajinaa.Board Go.Proofs.Ytdmhlfjocajinaa.BdSp
abbrev bk : Kd Int := Kd.int .u8
theorem hasB_lt {l : List Int} {x : Int} (h : ∀ y ∈ l, y < x) : hasB l x = false := by
  unfold hasB
  rw [Bool.eq_false_iff]
  intro hc
  have := h x (by simpa using hc)
  omega

set_option maxRecDepth 20000 in
set_option maxHeartbeats 8000000 in
theorem walk (A0 : Option Addr) (c0 : Nat) (l : List Int) (w : World) (hr : bk.C w A0 l.length l) (hc : l.length ≤ c0) (hwf : ∀ y ∈ l, (Lit.int .u8 y).wf = true) :
    Calls Try.prog 5 #[.slice A0 l.length c0] w fun e w' => e = .returned (.bool true) ∧ Below w.heap.size w w' := by
  have HR := Aside0.mk hr
  have HWF := Aside0.mk hwf
  clear hr hwf
  by_cases hl40 : l.length ≤ 40
  rotate_left
  · have e1 : decide ((l.length : Int) > 40) = true := by rw [decide_eq_true_eq]; omega
    have e2 : (40 : Int) < (l.length : Int) := by omega
    go_enter Try.func5, Try.ntmps5
    go_wp2_with fail
    refine (speaks_calls w).mono ?_
    rintro e w1 ⟨rfl, hu1⟩
    have U1 := Aside0.mk hu1
    clear hu1
    go_wp2_with fail
    refine (speaks_calls w1).mono ?_
    rintro e w2 ⟨rfl, hu2⟩
    have U2 := Aside0.mk (U1.out.step hu2)
    clear hu2
    go_wp2_with fail
    go_ret
    exact ⟨rfl, U2.out.to_below (Nat.le_refl _) (fun _ h => h.elim)⟩
  have e1 : decide ((l.length : Int) > 40) = false := by rw [decide_eq_false_iff_not]; omega
  have e2 : ¬ (40 : Int) < (l.length : Int) := by omega
  go_enter Try.func5, Try.ntmps5
  go_wp2_with fail
  refine (speaks_calls w).mono ?_
  rintro e w1 ⟨rfl, hu1⟩
  have U1 := Aside0.mk hu1
  have hz1 := hu1.size
  clear hu1
  go_wp2_with fail
  refine (new_calls w1 1 (by omega) (by omega)).mono ?_
  rintro e w2 ⟨rfl, h2, hu2⟩
  obtain ⟨b, hb⟩ : ∃ b, b = w1.heap.size := ⟨_, rfl⟩
  rw [← hb] at h2 ⊢
  have hb2 := h2.lt
  have hwb : w.heap.size ≤ b := by omega
  have HS := Aside0.mk h2.bound
  have HB2 : Aside0 (Below w.heap.size w w2) := ⟨(U1.out.step hu2).to_below (Nat.le_refl _) (fun _ h => h.elim)⟩
  clear h2 hu2 U1 hb
  go_wp2_with fail
  go_loopg [5, 6, 33] l.length (fun g v5 v6 v33 wr => ∃ (j : Nat) (sh : Bool) (m q : List Int) (AV : Option Addr) (cV : Nat) (F G : Nat → Prop), v33 = .int .i64 j ∧ v5 = .bool sh ∧ v6 = .slice AV q.length cV ∧ j ≤ l.length ∧ l.length - j ≤ g ∧ m.length ≤ 1 ∧ q.length ≤ j ∧ Aside0 (∀ y ∈ q, y < (j : Int)) ∧ Aside0 (At wr F b 1 sh m q) ∧ Aside0 (ik.R 3 wr 0 G (.slice AV q.length cV) q) ∧ Aside0 (∀ k, F k → ¬ G k) ∧ Aside0 (∀ k, F k ∨ G k → w.heap.size ≤ k ∧ k < wr.heap.size) ∧ Aside0 (Below w.heap.size w wr))
  case atStart => exact ⟨0, false, [], [], none, 0, _, fun _ => False, rfl, rfl, rfl, Nat.zero_le _, by omega, by simp, by simp, ⟨fun y hy => by simp at hy⟩, HS, ⟨Kd.R_nil _ _ _ _ _⟩, ⟨fun _ _ h => h⟩, ⟨fun k hk => hk.elim (fun h => ⟨by have := h.1; omega, h.2⟩) (fun h => h.elim)⟩, HB2⟩
  case round =>
    clear HS HB2
    obtain ⟨j, sh, m, q, AV, cV, F, G, rfl, rfl, rfl, hj, hg, hm1, hq1, HLT0, HA, HV, HD, HF, HBw⟩ := hrel
    have hzw := HBw.out.size
    by_cases hlt : j < l.length
    · cases gk with
      | zero => omega
      | succ g1 =>
      obtain ⟨ad, rfl, hcell⟩ := nums_at HR.out j hlt
      obtain ⟨x, hx⟩ : ∃ x, x = rd l j := ⟨_, rfl⟩
      rw [← hx] at hcell
      have hx0 : 0 ≤ x ∧ x ≤ 255 := by
        have h1 := HWF.out x (by rw [hx]; simp [rd, List.getD, hlt])
        simp [Lit.wf, IntKind.min, IntKind.max, IntKind.signed, IntKind.bits] at h1
        omega
      obtain ⟨hx1, hx2⟩ := hx0
      have hcw := pw_cell_below HBw.out hcell
      have HLT : Aside0 (∀ y ∈ q, y < ((j + 1 : Nat) : Int)) := ⟨fun y hy => by have := HLT0.out y hy; omega⟩
      clear hx hcell
      have b0 : (0 : Int) ≤ (j : Int) := by omega
      have b1 : (j : Int) < (l.length : Int) := by omega
      have b2 : decide ((j : Int) < (l.length : Int)) = true := by rw [decide_eq_true_eq]; omega
      by_cases x0 : x % 4 = 0
      · go_wp2_with fail
        refine (clear_calls wr _ b 1 sh m q HA.out).mono ?_
        rintro e w3 ⟨rfl, h3, hu3⟩
        have hz3 := hu3.size
        have hFb := HA.out.1
        have HA3 := Aside0.mk h3
        have HV3 := Aside0.mk (R_upd' HV.out hu3 (fun k hk _ h => HD.out b hFb (h ▸ hk)))
        have HF3 : Aside0 (∀ k, F k ∨ G k → w.heap.size ≤ k ∧ k < w3.heap.size) := ⟨fun k hk => by have := HF.out k hk; omega⟩
        have HB3 := Aside0.mk (HBw.out.upd hzw hu3 (fun k hk => by omega))
        clear h3 hu3 HA HV HF HBw hcw HLT0 hFb
        have HA := HA3
        have HV := HV3
        have HF := HF3
        have HBw := HB3
        go_wp2_with fail
        refine (waiting_calls w3 _ b 1 false [] q HA.out (by first | omega | simp)).mono ?_
        rintro e wa ⟨va, rfl, hra, hua⟩
        obtain ⟨Aa, ca, rfl⟩ := Kd.R_slice hra
        have HAa := Aside0.mk (HA.out.upd0 hua)
        have HVa := Aside0.mk (R_upd0 HV.out hua)
        have HBa := Aside0.mk (HBw.out.upd (by omega) hua (fun _ h => h.elim))
        have HRa := Aside0.mk (Kd.R_reads' hra).2.2
        have hzA := hua.size
        clear hra hua HA HV HBw
        go_wp2_with fail
        refine (SameI.same_calls Aa ca q AV cV q wa HRa.out (Kd.R_reads' HVa.out).2.2).mono ?_
        rw [show eqB (q) (q) = true by simp [eqB]]
        rintro e wb ⟨rfl, hq⟩
        have HAb := Aside0.mk (HAa.out.upd0 (Upd.of_q hq))
        have HVb := Aside0.mk (R_upd0 HVa.out (Upd.of_q hq))
        have hzb := (Upd.of_q hq).size
        have HBb := Aside0.mk (HBa.out.upd (by omega) (Upd.of_q hq) (fun _ h => h.elim))
        clear hq HAa HBa HRa HVa
        go_wp2_with fail
        go_roundg g1
        case rel => exact ⟨j + 1, false, [], q, AV, cV, _, _, by go_num, rfl, rfl, by omega, by omega, by first | omega | simp, by first | omega | (simp; done) | (simp; omega), ⟨HLT.out⟩, HAb, HVb, HD, ⟨fun k hk => by have := HF.out k hk; omega⟩, HBb⟩
        case measure => omega
      · have y0 : (x % 4 == 0) = false := by rw [beq_eq_false_iff_ne]; exact x0
        by_cases x1 : x % 4 = 1
        · clear x0 y0
          have hbl := HA.out.lt
          go_wp2_with fail
          refine (show_calls (wr.alloc (.cells #[.int .u32 j] 29)) _ b 1 sh m q _ 1 [(j : Int)] (HA.out.bound.upd0 ((Upd.refl wr _).alloc _)) (F_lit .u32 wr 29 [(j : Int)] (by simp) b hbl) (by simp) (by omega)).mono ?_
          rintro e w3 ⟨v3, rfl, hr3, h3, hu3⟩
          obtain ⟨A3, c3, rfl⟩ := Kd.R_slice hr3
          have hz3 : wr.heap.size + 1 ≤ w3.heap.size := by have := hu3.size; simpa using this
          have hFb := HA.out.1
          have hwr3 : Upd wr w3 (fun k => k = b) := (((Upd.refl wr (fun k => k = b)).alloc _)).trans hu3 (fun k hk => .inl hk)
          have HA3 : Aside0 (At w3 (fun k => k = b ∨ (wr.heap.size ≤ k ∧ k < w3.heap.size)) b 1 true [(j : Int)] []) := ⟨h3.bound.mono (fun k hk => hk.1.imp id (fun h => ⟨by simp at h; omega, hk.2⟩))⟩
          have HR3 := Aside0.mk (Kd.R_reads' hr3).2.2
          have HV3 := Aside0.mk (Kd.R_reads' (R_upd' HV.out hwr3 (fun k hk _ h => HD.out b hFb (h ▸ hk)))).2.2
          have hbF := HF.out b (.inl hFb)
          have HB3 := Aside0.mk (HBw.out.upd hzw hwr3 (fun k hk => by omega))
          clear hr3 h3 hu3 HA HV HF HD HBw hcw HLT0 HLT hFb hwr3
          go_wp2_with fail
          refine (SameI.same_calls A3 c3 q AV cV q w3 HR3.out HV3.out).mono ?_
          rw [show eqB q q = true by simp [eqB]]
          rintro e w4 ⟨rfl, hq⟩
          have hz4 := (Upd.of_q hq).size
          have HA := Aside0.mk (HA3.out.upd0 (Upd.of_q hq))
          have HBw := Aside0.mk (HB3.out.upd (by omega) (Upd.of_q hq) (fun _ h => h.elim))
          have HV : Aside0 (ik.R 3 w4 0 (fun _ => False) (.slice none ([] : List Int).length 0) []) := ⟨Kd.R_nil _ _ _ _ _⟩
          have HD : Aside0 (∀ k, (k = b ∨ (wr.heap.size ≤ k ∧ k < w3.heap.size)) → ¬ False) := ⟨fun _ _ h => h⟩
          have HF : Aside0 (∀ k, (k = b ∨ (wr.heap.size ≤ k ∧ k < w3.heap.size)) ∨ False → w.heap.size ≤ k ∧ k < w4.heap.size) := ⟨fun k hk => by
            rcases hk with hk | hk
            · omega
            · exact hk.elim⟩
          have HLT : Aside0 (∀ y ∈ ([] : List Int), y < ((j + 1 : Nat) : Int)) := ⟨fun y hy => by simp at hy⟩
          clear hq HA3 HB3 HR3 HV3
          go_wp2_with fail
          refine (waiting_calls w4 _ b 1 true [(j : Int)] ([] : List Int) HA.out (by first | omega | simp)).mono ?_
          rintro e wa ⟨va, rfl, hra, hua⟩
          obtain ⟨Aa, ca, rfl⟩ := Kd.R_slice hra
          have HAa := Aside0.mk (HA.out.upd0 hua)
          have HVa := Aside0.mk (R_upd0 HV.out hua)
          have HBa := Aside0.mk (HBw.out.upd (by omega) hua (fun _ h => h.elim))
          have HRa := Aside0.mk (Kd.R_reads' hra).2.2
          have hzA := hua.size
          clear hra hua HA HV HBw
          go_wp2_with fail
          refine (SameI.same_calls Aa ca ([] : List Int) none 0 ([] : List Int) wa HRa.out (Kd.R_reads' HVa.out).2.2).mono ?_
          rw [show eqB (([] : List Int)) (([] : List Int)) = true by simp [eqB]]
          rintro e wb ⟨rfl, hq⟩
          have HAb := Aside0.mk (HAa.out.upd0 (Upd.of_q hq))
          have HVb := Aside0.mk (R_upd0 HVa.out (Upd.of_q hq))
          have hzb := (Upd.of_q hq).size
          have HBb := Aside0.mk (HBa.out.upd (by omega) (Upd.of_q hq) (fun _ h => h.elim))
          clear hq HAa HBa HRa HVa
          go_wp2_with fail
          go_roundg g1
          case rel => exact ⟨j + 1, true, [(j : Int)], ([] : List Int), none, 0, _, _, by go_num, rfl, rfl, by omega, by omega, by first | omega | simp, by first | omega | (simp; done) | (simp; omega), ⟨HLT.out⟩, HAb, HVb, HD, ⟨fun k hk => by have := HF.out k hk; omega⟩, HBb⟩
          case measure => omega
        · have y1 : (x % 4 == 1) = false := by rw [beq_eq_false_iff_ne]; exact x1
          clear x0 x1
          cases sh with
          | true =>
            go_wp2_with fail
            refine (read_yes wr _ b 1 m q j HA.out (by omega)).mono ?_
            rintro e w3 ⟨v3, rfl, hr3, hu3⟩
            obtain ⟨A3, c3, rfl⟩ := Kd.R_slice hr3
            have hz3 := hu3.size
            have HA3 := Aside0.mk (HA.out.upd0 hu3)
            have HV3 := Aside0.mk (R_upd0 HV.out hu3)
            have HF3 : Aside0 (∀ k, F k ∨ G k → w.heap.size ≤ k ∧ k < w3.heap.size) := ⟨fun k hk => by have := HF.out k hk; omega⟩
            have HB3 := Aside0.mk (HBw.out.upd hzw hu3 (fun k hk => hk.elim))
            clear hr3 hu3 HA HV HF HBw hcw HLT0
            have HA := HA3
            have HV := HV3
            have HF := HF3
            have HBw := HB3
            go_wp2_with fail
            refine (waiting_calls w3 _ b 1 true m q HA.out (by first | omega | simp)).mono ?_
            rintro e wa ⟨va, rfl, hra, hua⟩
            obtain ⟨Aa, ca, rfl⟩ := Kd.R_slice hra
            have HAa := Aside0.mk (HA.out.upd0 hua)
            have HVa := Aside0.mk (R_upd0 HV.out hua)
            have HBa := Aside0.mk (HBw.out.upd (by omega) hua (fun _ h => h.elim))
            have HRa := Aside0.mk (Kd.R_reads' hra).2.2
            have hzA := hua.size
            clear hra hua HA HV HBw
            go_wp2_with fail
            refine (SameI.same_calls Aa ca q AV cV q wa HRa.out (Kd.R_reads' HVa.out).2.2).mono ?_
            rw [show eqB (q) (q) = true by simp [eqB]]
            rintro e wb ⟨rfl, hq⟩
            have HAb := Aside0.mk (HAa.out.upd0 (Upd.of_q hq))
            have HVb := Aside0.mk (R_upd0 HVa.out (Upd.of_q hq))
            have hzb := (Upd.of_q hq).size
            have HBb := Aside0.mk (HBa.out.upd (by omega) (Upd.of_q hq) (fun _ h => h.elim))
            clear hq HAa HBa HRa HVa
            go_wp2_with fail
            go_roundg g1
            case rel => exact ⟨j + 1, true, m, q, AV, cV, _, _, by go_num, rfl, rfl, by omega, by omega, by first | omega | simp, by first | omega | (simp; done) | (simp; omega), ⟨HLT.out⟩, HAb, HVb, HD, ⟨fun k hk => by have := HF.out k hk; omega⟩, HBb⟩
            case measure => omega
          | false =>
            go_wp2_with fail
            refine (read_no wr _ b 1 m q j HA.out.bound (by omega)).mono ?_
            rintro e w3 ⟨rfl, h3, hu3⟩
            obtain ⟨q2, hq2⟩ : ∃ q2, q2 = q ++ [(j : Int)] := ⟨_, rfl⟩
            rw [show waitL false q j = q2 by rw [hq2]; unfold waitL; rw [hasB_lt HLT0.out]; simp] at h3
            have hz3 := hu3.size
            have HA3 : Aside0 (At w3 (fun k => F k ∨ (wr.heap.size ≤ k ∧ k < w3.heap.size)) b 1 false m q2) := ⟨h3.bound.mono (fun k hk => by
              rcases hk.1 with h | h
              · exact .inl h.1
              · exact .inr ⟨h, hk.2⟩)⟩
            have HV3 := Aside0.mk (R_upd HV.out hu3 (fun k hk _ h => HD.out k h.1 hk))
            have HF3 : Aside0 (∀ k, F k ∨ G k → w.heap.size ≤ k ∧ k < wr.heap.size) := HF
            have HB3 := Aside0.mk (HBw.out.upd hzw hu3 (fun k hk => (HF.out k (.inl hk.1)).1))
            have HQ2 := Aside0.mk hq2
            have hql : q2.length ≤ j + 1 := by rw [hq2]; simp; omega
            have HLT2 : Aside0 (∀ y ∈ q2, y < ((j + 1 : Nat) : Int)) := ⟨fun y hy => by
              rw [hq2, List.mem_append, List.mem_singleton] at hy
              rcases hy with hy | hy
              · exact HLT.out y hy
              · omega⟩
            clear h3 hu3 HA HV HF HBw hcw HLT0 HLT hq2
            go_wp2_with (at_builtin; refine Kd.R_append ik (w0 := w3) 0 rfl (.tmp 51) (.tmp 53) 30 3 (.int .i64 0) 8 rfl Try.underlying30 SlI.info rfl (by decide) (by omega) (.slice AV q.length cV) q j [.int .i64 j] (fun k => (G k ∧ k < wr.heap.size) ∨ w3.heap.size ≤ k) (fun _ => False) rfl rfl ?aP (fun _ hk => hk.elim) ?aF ?aO ?aB ?aS ?aL ?aH)
            case aP => exact rfl
            case aF => exact fun k hk => .inr hk
            case aO => exact Kd.R_mono HV3.out (fun k hk => .inl hk)
            case aB => exact Below.refl _ _
            case aS => omega
            case aL => omega
            case aH =>
            intro v4 w4 ho hb4 hg4 hat4
            have hu4 : Upd w3 w4 (fun k => G k ∧ k < wr.heap.size) := Upd.of_grown hg4 (fun k hk => HV3.out.1 k hk)
            have hz4 := hu4.size
            rw [← HQ2.out] at ho
            obtain ⟨A4, c4, rfl⟩ := Kd.R_slice ho
            have HA := Aside0.mk (HA3.out.upd' hu4 (fun k hk _ h => by
              rcases hk with hk | hk
              · exact HD.out k hk h.1
              · omega))
            have HV := Aside0.mk (Kd.R_mono (Kd.R_bound ho) (fun k hk => (⟨hk.1, hk.2.2.1⟩ : ((G k ∧ k < wr.heap.size) ∨ w3.heap.size ≤ k) ∧ k < w4.heap.size)))
            have HBw := Aside0.mk (HB3.out.upd (by omega) hu4 (fun k hk => (HF3.out k (.inr hk.1)).1))
            have HF : Aside0 (∀ k, (F k ∨ (wr.heap.size ≤ k ∧ k < w3.heap.size)) ∨ (((G k ∧ k < wr.heap.size) ∨ w3.heap.size ≤ k) ∧ k < w4.heap.size) → w.heap.size ≤ k ∧ k < w4.heap.size) := ⟨fun k hk => by
              rcases hk with (hk | hk) | ⟨hk | hk, hk2⟩
              · have := HF3.out k (.inl hk); omega
              · omega
              · have := HF3.out k (.inr hk.1); omega
              · omega⟩
            have HD2 : Aside0 (∀ k, (F k ∨ (wr.heap.size ≤ k ∧ k < w3.heap.size)) → ¬ (((G k ∧ k < wr.heap.size) ∨ w3.heap.size ≤ k) ∧ k < w4.heap.size)) := ⟨fun k hk h => by
              rcases hk with hk | hk <;> rcases h with ⟨h | h, h2⟩
              · exact HD.out k hk h.1
              · have := HF3.out k (.inl hk); omega
              · omega
              · omega⟩
            have HLT := HLT2
            clear ho hb4 hg4 hat4 hu4 HA3 HV3 HF3 HB3 HD HLT2 HQ2
            have HD := HD2
            go_wp2_with fail
            refine (waiting_calls w4 _ b 1 false m q2 HA.out (by first | omega | simp)).mono ?_
            rintro e wa ⟨va, rfl, hra, hua⟩
            obtain ⟨Aa, ca, rfl⟩ := Kd.R_slice hra
            have HAa := Aside0.mk (HA.out.upd0 hua)
            have HVa := Aside0.mk (R_upd0 HV.out hua)
            have HBa := Aside0.mk (HBw.out.upd (by omega) hua (fun _ h => h.elim))
            have HRa := Aside0.mk (Kd.R_reads' hra).2.2
            have hzA := hua.size
            clear hra hua HA HV HBw
            go_wp2_with fail
            refine (SameI.same_calls Aa ca q2 A4 c4 q2 wa HRa.out (Kd.R_reads' HVa.out).2.2).mono ?_
            rw [show eqB (q2) (q2) = true by simp [eqB]]
            rintro e wb ⟨rfl, hq⟩
            have HAb := Aside0.mk (HAa.out.upd0 (Upd.of_q hq))
            have HVb := Aside0.mk (R_upd0 HVa.out (Upd.of_q hq))
            have hzb := (Upd.of_q hq).size
            have HBb := Aside0.mk (HBa.out.upd (by omega) (Upd.of_q hq) (fun _ h => h.elim))
            clear hq HAa HBa HRa HVa
            go_wp2_with fail
            go_roundg g1
            case rel => exact ⟨j + 1, false, m, q2, A4, c4, _, _, by go_num, rfl, rfl, by omega, by omega, by first | omega | simp, by first | omega | (simp; done) | (simp; omega), ⟨HLT.out⟩, HAb, HVb, HD, ⟨fun k hk => by have := HF.out k hk; omega⟩, HBb⟩
            case measure => omega
    · have b2 : decide ((j : Int) < (l.length : Int)) = false := by rw [decide_eq_false_iff_not]; omega
      have b3 : (l.length : Int) ≤ (j : Int) := by omega
      go_wp2_with fail
      go_ret
      exact ⟨rfl, HBw.out⟩
end Go.Proofs.Ytdmhlfjocajinaa.BdTurns
