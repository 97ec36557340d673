import Derived.Test.YtdmhlfjocajinaaBdSp
import Derived.Test.YtdmhlfjocajinaaOwn3
set_option linter.unusedVariables false
set_option linter.unusedSimpArgs false
namespace Go.Proofs.Ytdmhlfjocajinaa.BdOnce
attribute [local go_sem ↓] Go.wp_at_zero Go.wp_at_succ
open Go.RowKit Go.Proofs.YtdmhlfjocajinaaW.PrintWords Go.Proofs.Ytdmhlfjocajinaa.Own Go.Proofs.Ytdmhlfjocajinaa.Own2 Go.Proofs.Ytdmhlfjocajinaa.Own3 Go.Proofs.Ytdmhlfjocajinaa.Board Go.Proofs.Ytdmhlfjocajinaa.BdSp

theorem nodup_wait {q : List Int} {id : Int} (h : q.Nodup) (hi : hasB q id = false) : (q ++ [id]).Nodup := by
  rw [List.nodup_append]
  refine ⟨h, by simp, fun a ha b hb he => ?_⟩
  rw [List.mem_singleton] at hb
  subst hb he
  unfold hasB at hi
  simp at hi
  exact hi ha
theorem has_at {q : List Int} {k : Nat} (hk : k < q.length) : hasB q (rd q k) = true := by
  unfold hasB
  simp [rd, List.getD, hk]
theorem drop_at {q : List Int} {k : Nat} (h : q.Nodup) (hk : k < q.length) : dropL q (rd q k) = q.eraseIdx k := by
  have h1 : q.idxOf? (rd q k) = some k := by
    rw [List.idxOf?_eq_some_iff]
    refine ⟨hk, by simp [rd, List.getD, hk], fun j hj he => ?_⟩
    have := (List.pairwise_iff_getElem.1 h) j k (by omega) hk hj
    apply this
    rw [he]
    simp [rd, List.getD, hk]
  unfold dropL
  rw [h1]
theorem gone_at {q : List Int} {k : Nat} (h : q.Nodup) (hk : k < q.length) : hasB (q.eraseIdx k) (rd q k) = false := by
  unfold hasB
  rw [Bool.eq_false_iff]
  intro hc
  have hm : rd q k ∈ q.eraseIdx k := by simpa using hc
  rw [List.mem_eraseIdx_iff_getElem] at hm
  obtain ⟨i, hi, hne, he⟩ := hm
  have hp := List.pairwise_iff_getElem.1 h
  have he2 : q[i] = q[k] := by rw [he]; simp [rd, List.getD, hk]
  rcases Nat.lt_or_ge i k with h1 | h1
  · exact hp i k hi hk h1 he2
  · exact hp k i hk hi (by omega) he2.symm

set_option maxRecDepth 20000 in
set_option maxHeartbeats 8000000 in
theorem walk (A0 : Option Addr) (c0 : Nat) (ids : List Int) (dr : Int) (A1 : Option Addr) (c1 : Nat) (m : List Int) (w : World) (hr : ik.C w A0 ids.length ids) (hc : ids.length ≤ c0) (hwf : ∀ y ∈ ids, (Lit.int .i64 y).wf = true) (hdr : (Lit.int .u8 dr).wf = true) (hm : uk.C w A1 m.length m) (hc1 : m.length ≤ c1) (_ : ∀ y ∈ m, (Lit.int .u32 y).wf = true) :
    Calls Try.prog 6 #[.slice A0 ids.length c0, .int .u8 dr, .slice A1 m.length c1] w fun e w' => e = .returned (.bool true) ∧ Below w.heap.size w w' := by
  have HR := Aside0.mk hr
  have HM := Aside0.mk hm
  obtain ⟨hd0, hd1⟩ : 0 ≤ dr ∧ dr ≤ 255 := by
    simp [Lit.wf, IntKind.min, IntKind.max, IntKind.signed, IntKind.bits] at hdr
    omega
  clear hr hm hwf hdr
  by_cases hl40 : ids.length ≤ 40
  rotate_left
  · have e1 : decide ((ids.length : Int) > 40) = true := by rw [decide_eq_true_eq]; omega
    have e2 : (40 : Int) < (ids.length : Int) := by omega
    go_enter Try.func6, Try.ntmps6
    go_wp2_with fail
    refine (speaks_calls w).mono ?_
    rintro e w1 ⟨rfl, hu1⟩
    have U1 := Aside0.mk hu1
    clear hu1
    go_wp2_with fail
    refine (speaks_calls w1).mono ?_
    rintro e w2 ⟨rfl, hu2⟩
    have U2 := Aside0.mk (U1.out.step hu2)
    clear hu2
    go_wp2_with fail
    go_ret
    exact ⟨rfl, U2.out.to_below (Nat.le_refl _) (fun _ h => h.elim)⟩
  by_cases hm32 : m.length ≤ 32
  rotate_left
  · have e1 : decide ((ids.length : Int) > 40) = false := by rw [decide_eq_false_iff_not]; omega
    have e2 : ¬ (40 : Int) < (ids.length : Int) := by omega
    have e3 : decide ((m.length : Int) > 32) = true := by rw [decide_eq_true_eq]; omega
    have e4 : (32 : Int) < (m.length : Int) := by omega
    go_enter Try.func6, Try.ntmps6
    go_wp2_with fail
    refine (speaks_calls w).mono ?_
    rintro e w1 ⟨rfl, hu1⟩
    have U1 := Aside0.mk hu1
    clear hu1
    go_wp2_with fail
    refine (speaks_calls w1).mono ?_
    rintro e w2 ⟨rfl, hu2⟩
    have U2 := Aside0.mk (U1.out.step hu2)
    clear hu2
    go_wp2_with fail
    go_ret
    exact ⟨rfl, U2.out.to_below (Nat.le_refl _) (fun _ h => h.elim)⟩
  have e1 : decide ((ids.length : Int) > 40) = false := by rw [decide_eq_false_iff_not]; omega
  have e2 : ¬ (40 : Int) < (ids.length : Int) := by omega
  have e3 : decide ((m.length : Int) > 32) = false := by rw [decide_eq_false_iff_not]; omega
  have e4 : ¬ (32 : Int) < (m.length : Int) := by omega
  go_enter Try.func6, Try.ntmps6
  go_wp2_with fail
  refine (speaks_calls w).mono ?_
  rintro e w1 ⟨rfl, hu1⟩
  have U1 := Aside0.mk hu1
  have hz1 := hu1.size
  clear hu1
  go_wp2_with fail
  refine (new_calls w1 32 (by omega) (by omega)).mono ?_
  rintro e w2 ⟨rfl, h2, hu2⟩
  obtain ⟨b, hb⟩ : ∃ b, b = w1.heap.size := ⟨_, rfl⟩
  rw [← hb] at h2 ⊢
  have hb2 := h2.lt
  have hwb : w.heap.size ≤ b := by omega
  have HS := Aside0.mk h2.bound
  have HB2 : Aside0 (Below w.heap.size w w2) := ⟨(U1.out.step hu2).to_below (Nat.le_refl _) (fun _ h => h.elim)⟩
  clear h2 hu2 U1 hb
  go_wp2_with fail
  go_loopg [9, 48] ids.length (fun g v9 v48 wr => ∃ (j : Nat) (q : List Int) (AV : Option Addr) (cV : Nat) (F G : Nat → Prop), v48 = .int .i64 j ∧ v9 = .slice AV q.length cV ∧ j ≤ ids.length ∧ ids.length - j ≤ g ∧ q.length ≤ j ∧ Aside0 q.Nodup ∧ Aside0 (At wr F b 32 false [] q) ∧ Aside0 (ik.R 3 wr 0 G (.slice AV q.length cV) q) ∧ Aside0 (∀ k, F k → ¬ G k) ∧ Aside0 (∀ k, F k ∨ G k → w.heap.size ≤ k ∧ k < wr.heap.size) ∧ Aside0 (Below w.heap.size w wr))
  case atStart => exact ⟨0, [], none, 0, _, fun _ => False, rfl, rfl, Nat.zero_le _, by omega, by simp, ⟨List.nodup_nil⟩, HS, ⟨Kd.R_nil _ _ _ _ _⟩, ⟨fun _ _ h => h⟩, ⟨fun k hk => hk.elim (fun h => ⟨by have := h.1; omega, h.2⟩) (fun h => h.elim)⟩, HB2⟩
  case round =>
    clear HS HB2
    obtain ⟨j, q, AV, cV, F, G, rfl, rfl, hj, hg, hq1, HN, HA, HV, HD, HF, HBw⟩ := hrel
    have hzw := HBw.out.size
    by_cases hlt : j < ids.length
    · cases gk with
      | zero => omega
      | succ g1 =>
      obtain ⟨ad, hade, hcell⟩ := nums_at HR.out j hlt
      subst hade
      obtain ⟨id, hid⟩ : ∃ id, id = rd ids j := ⟨_, rfl⟩
      rw [← hid] at hcell
      have hcw := pw_cell_below HBw.out hcell
      clear hid hcell
      have b0 : (0 : Int) ≤ (j : Int) := by omega
      have b1 : (j : Int) < (ids.length : Int) := by omega
      have b2 : decide ((j : Int) < (ids.length : Int)) = true := by rw [decide_eq_true_eq]; omega
      go_wp2_with fail
      refine (read_no wr _ b 32 [] q id HA.out.bound (by omega)).mono ?_
      rintro e w3 ⟨rfl, h3, hu3⟩
      have hz3 := hu3.size
      have HA3 : Aside0 (At w3 (fun k => F k ∨ (wr.heap.size ≤ k ∧ k < w3.heap.size)) b 32 false [] (waitL false q id)) := ⟨h3.bound.mono (fun k hk => by
        rcases hk.1 with h | h
        · exact .inl h.1
        · exact .inr ⟨h, hk.2⟩)⟩
      have HV3 := Aside0.mk (R_upd HV.out hu3 (fun k hk _ h => HD.out k h.1 hk))
      have HF3 : Aside0 (∀ k, F k ∨ G k → w.heap.size ≤ k ∧ k < wr.heap.size) := HF
      have HB3 := Aside0.mk (HBw.out.upd hzw hu3 (fun k hk => (HF.out k (.inl hk.1)).1))
      clear h3 hu3 HA HV HF HBw hcw
      go_wp2_with fail
      refine (SlI.contains_calls AV cV q id w3 (Kd.R_reads' HV3.out).2.2).mono ?_
      cases hin : hasB q id with
      | true =>
        rintro e w4 ⟨rfl, rfl⟩
        have hwl : waitL false q id = q := by unfold waitL; simp [hin]
        rw [hwl] at HA3
        clear hin hwl
        go_wp2_with fail
        go_roundg g1
        case rel => exact ⟨j + 1, q, AV, cV, _, _, by go_num, rfl, by omega, by omega, by omega, HN, HA3, HV3, ⟨fun k hk h => by
          rcases hk with hk | hk
          · exact HD.out k hk h.1
          · omega⟩, ⟨fun k hk => by
          rcases hk with (hk | hk) | hk
          · have := HF3.out k (.inl hk); omega
          · omega
          · have := HF3.out k (.inr hk.1); omega⟩, HB3⟩
        case measure => omega
      | false =>
        rintro e w4 ⟨rfl, rfl⟩
        obtain ⟨q2, hq2⟩ : ∃ q2, q2 = q ++ [id] := ⟨_, rfl⟩
        have hwl : waitL false q id = q2 := by rw [hq2]; unfold waitL; simp [hin]
        rw [hwl] at HA3
        have HN2 : Aside0 q2.Nodup := ⟨by rw [hq2]; exact nodup_wait HN.out hin⟩
        have hql : q2.length ≤ j + 1 := by rw [hq2]; simp; omega
        have HQ2 := Aside0.mk hq2
        clear hin hwl hq2 HN
        go_wp2_with (at_builtin; refine Kd.R_append ik (w0 := w3) 0 rfl (.tmp 63) (.tmp 65) 30 3 (.int .i64 0) 8 rfl Try.underlying30 SlI.info rfl (by decide) (by omega) (.slice AV q.length cV) q id [.int .i64 id] (fun k => (G k ∧ k < wr.heap.size) ∨ w3.heap.size ≤ k) (fun _ => False) rfl rfl ?aP (fun _ hk => hk.elim) ?aF ?aO ?aB ?aS ?aL ?aH)
        case aP => exact rfl
        case aF => exact fun k hk => .inr hk
        case aO => exact Kd.R_mono HV3.out (fun k hk => .inl hk)
        case aB => exact Below.refl _ _
        case aS => omega
        case aL => omega
        case aH =>
        intro v4 w4 ho hb4 hg4 hat4
        have hu4 : Upd w3 w4 (fun k => G k ∧ k < wr.heap.size) := Upd.of_grown hg4 (fun k hk => HV3.out.1 k hk)
        have hz4 := hu4.size
        rw [← HQ2.out] at ho
        obtain ⟨A4, c4, rfl⟩ := Kd.R_slice ho
        have HA := Aside0.mk (HA3.out.upd' hu4 (fun k hk _ h => by
          rcases hk with hk | hk
          · exact HD.out k hk h.1
          · omega))
        have HV := Aside0.mk (Kd.R_mono (Kd.R_bound ho) (fun k hk => (⟨hk.1, hk.2.2.1⟩ : ((G k ∧ k < wr.heap.size) ∨ w3.heap.size ≤ k) ∧ k < w4.heap.size)))
        have HBw := Aside0.mk (HB3.out.upd (by omega) hu4 (fun k hk => (HF3.out k (.inr hk.1)).1))
        have HF : Aside0 (∀ k, (F k ∨ (wr.heap.size ≤ k ∧ k < w3.heap.size)) ∨ (((G k ∧ k < wr.heap.size) ∨ w3.heap.size ≤ k) ∧ k < w4.heap.size) → w.heap.size ≤ k ∧ k < w4.heap.size) := ⟨fun k hk => by
          rcases hk with (hk | hk) | ⟨hk | hk, hk2⟩
          · have := HF3.out k (.inl hk); omega
          · omega
          · have := HF3.out k (.inr hk.1); omega
          · omega⟩
        have HD2 : Aside0 (∀ k, (F k ∨ (wr.heap.size ≤ k ∧ k < w3.heap.size)) → ¬ (((G k ∧ k < wr.heap.size) ∨ w3.heap.size ≤ k) ∧ k < w4.heap.size)) := ⟨fun k hk h => by
          rcases hk with hk | hk <;> rcases h with ⟨h | h, h2⟩
          · exact HD.out k hk h.1
          · have := HF3.out k (.inl hk); omega
          · omega
          · omega⟩
        clear ho hb4 hg4 hat4 hu4 HA3 HV3 HF3 HB3 HD HQ2
        go_wp2_with fail
        go_roundg g1
        case rel => exact ⟨j + 1, q2, A4, c4, _, _, by go_num, rfl, by omega, by omega, by omega, HN2, HA, HV, HD2, HF, HBw⟩
        case measure => omega
    · have b2 : decide ((j : Int) < (ids.length : Int)) = false := by rw [decide_eq_false_iff_not]; omega
      have b3 : (ids.length : Int) ≤ (j : Int) := by omega
      by_cases hq0 : q.length = 0
      · obtain rfl : q = [] := List.eq_nil_of_length_eq_zero hq0
        clear hq0
        go_wp2_with fail
        refine (show_calls wr _ b 32 false [] ([] : List Int) A1 c1 m HA.out (C_came HM.out HBw.out b hwb) hm32 (by omega)).mono ?_
        rintro e w5 ⟨v5, rfl, hr5, h5, hu5⟩
        obtain ⟨A5, c5, rfl⟩ := Kd.R_slice hr5
        have hz5 := hu5.size
        have hFb := HA.out.1
        have HA5 : Aside0 (At w5 (fun k => k = b ∨ wr.heap.size ≤ k ∧ k < w5.heap.size) b 32 true m []) := ⟨h5.bound.mono (fun k hk => by omega)⟩
        have HR5 := Aside0.mk hr5
        have HV5 := Aside0.mk (R_upd' HV.out hu5 (fun k hk _ h => HD.out b hFb (h ▸ hk)))
        have HB5 := Aside0.mk (HBw.out.upd (by omega) hu5 (fun k hk => by omega))
        have HG5 : Aside0 (∀ k, G k → k ≠ b) := ⟨fun k hk h => HD.out b hFb (h ▸ hk)⟩
        clear hr5 h5 hu5 HA HV HF HD HBw hFb
        go_wp2_with fail
        refine (show_calls w5 _ b 32 true m [] A1 c1 m HA5.out (C_came HM.out HB5.out b hwb) hm32 (by omega)).mono ?_
        rintro e w6 ⟨v6, rfl, hr6, h6, hu6⟩
        obtain ⟨A6, c6, rfl⟩ := Kd.R_slice hr6
        have hz6 := hu6.size
        have HA6 : Aside0 (At w6 (fun k => (k = b ∨ w5.heap.size ≤ k) ∧ k < w6.heap.size) b 32 true m []) := ⟨h6.bound⟩
        have HR6 := Aside0.mk (Kd.R_reads' (R_upd' HR5.out hu6 (fun k hk _ h => hk.1.2 h))).2.2
        have HV6 := Aside0.mk (Kd.R_reads' (R_upd' HV5.out hu6 (fun k hk _ h => HG5.out k hk h))).2.2
        have HB6 := Aside0.mk (HB5.out.upd (by omega) hu6 (fun k hk => by omega))
        clear hr6 h6 hu6 HA5 HV5 HB5 HR5 HG5
        go_wp2_with fail
        refine (SameI.same_calls A5 c5 ([] : List Int) AV cV ([] : List Int) w6 HR6.out HV6.out).mono ?_
        rw [show eqB (([] : List Int)) (([] : List Int)) = true by simp [eqB]]
        rintro e w7 ⟨rfl, hq⟩
        have hz7 := (Upd.of_q hq).size
        have HA7 := Aside0.mk (HA6.out.upd0 (Upd.of_q hq))
        have HB7 := Aside0.mk (HB6.out.upd (by omega) (Upd.of_q hq) (fun _ h => h.elim))
        clear hq HA6 HB6 HR6 HV6
        go_wp2_with fail
        go_loopg [127] ids.length (fun g v127 wr => ∃ j : Nat, v127 = .int .i64 j ∧ j ≤ ids.length ∧ ids.length - j ≤ g ∧ Aside0 (At wr (fun k => (k = b ∨ w5.heap.size ≤ k) ∧ k < w6.heap.size) b 32 true m []) ∧ Aside0 (Below w.heap.size w wr))
        case atStart => exact ⟨0, rfl, Nat.zero_le _, by omega, HA7, HB7⟩
        case round =>
          clear HA7 HB7
          obtain ⟨j, rfl, hj, hg, HA, HBw⟩ := hrel
          have hzw := HBw.out.size
          by_cases hlt : j < ids.length
          · cases gk with
            | zero => omega
            | succ g1 =>
            obtain ⟨ad, hade, hcell⟩ := nums_at HR.out j hlt
            subst hade
            have hcw := pw_cell_below HBw.out hcell
            have b0 : (0 : Int) ≤ (j : Int) := by omega
            have b1 : (j : Int) < (ids.length : Int) := by omega
            have b2 : decide ((j : Int) < (ids.length : Int)) = true := by rw [decide_eq_true_eq]; omega
            go_wp2_with fail
            refine (read_yes wr _ b 32 m [] _ HA.out (by omega)).mono ?_
            rintro e w8 ⟨v8, rfl, hr8, hu8⟩
            obtain ⟨A8, c8, rfl⟩ := Kd.R_slice hr8
            have hz8 := hu8.size
            have HA8 := Aside0.mk (HA.out.upd0 hu8)
            have HR8 := Aside0.mk (Kd.R_reads' hr8).2.2
            have HB8 := Aside0.mk (HBw.out.upd (by omega) hu8 (fun _ h => h.elim))
            clear hr8 hu8 HA HBw hcw hcell
            go_wp2_with fail
            refine (SameU.same_calls A8 c8 m A1 c1 m w8 HR8.out (Kd.C_below HM.out HB8.out)).mono ?_
            rw [show eqB m m = true by simp [eqB]]
            rintro e w9 ⟨rfl, hq⟩
            have hz9 := (Upd.of_q hq).size
            have HA9 := Aside0.mk (HA8.out.upd0 (Upd.of_q hq))
            have HB9 := Aside0.mk (HB8.out.upd (by omega) (Upd.of_q hq) (fun _ h => h.elim))
            clear hq HA8 HB8 HR8
            go_wp2_with fail
            refine (waiting_calls w9 _ b 32 true m [] HA9.out (by simp)).mono ?_
            rintro e wa ⟨va, rfl, hra, hua⟩
            obtain ⟨Aa, ca, rfl⟩ := Kd.R_slice hra
            have HAa := Aside0.mk (HA9.out.upd0 hua)
            have HBa := Aside0.mk (HB9.out.upd (by omega) hua (fun _ h => h.elim))
            clear hra hua HA9 HB9
            go_wp2_with fail
            go_roundg g1
            case rel => exact ⟨j + 1, by go_num, by omega, by omega, HAa, HBa⟩
            case measure => omega
          · have b2 : decide ((j : Int) < (ids.length : Int)) = false := by rw [decide_eq_false_iff_not]; omega
            have b3 : (ids.length : Int) ≤ (j : Int) := by omega
            go_wp2_with fail
            go_ret
            exact ⟨rfl, HBw.out⟩
      · have e5 : decide ((q.length : Int) > 0) = true := by rw [decide_eq_true_eq]; omega
        have e6 : (0 : Int) < (q.length : Int) := by omega
        obtain ⟨k, hk, hkq⟩ : ∃ k : Nat, dr % (q.length : Int) = (k : Int) ∧ k < q.length := ⟨(dr % (q.length : Int)).toNat, by have := Int.emod_nonneg dr (b := (q.length : Int)) (by omega); omega, by have := Int.emod_lt_of_pos dr e6; have := Int.emod_nonneg dr (b := (q.length : Int)) (by omega); omega⟩
        obtain ⟨av, rfl, hcq⟩ := nums_at (Kd.R_reads' HV.out).2.2 k hkq
        have d0 : (0 : Int) ≤ (k : Int) := by omega
        have d1 : (k : Int) < (q.length : Int) := by omega
        have e7 : ¬ (q.length : Int) = 0 := by omega
        have hrk : rd q k = rd q k := rfl
        obtain ⟨id, hid⟩ : ∃ id, id = rd q k := ⟨_, rfl⟩
        rw [← hid] at hcq
        have hdr := drop_at HN.out hkq
        have hgo := gone_at HN.out hkq
        have hha := has_at hkq
        rw [← hid] at hdr hgo hha
        have HDR := Aside0.mk hdr
        have HGO := Aside0.mk hgo
        have HHA := Aside0.mk hha
        obtain ⟨g, hge⟩ : ∃ g, av = ⟨g, 0, none⟩ := by
          obtain ⟨g, cap, hv, _⟩ := Kd.R_form HV.out (by omega)
          injection hv with h1 _ _
          injection h1 with h1
          exact ⟨g, h1⟩
        subst hge
        have hGg : G g := HV.out.1 g rfl
        have HGg := Aside0.mk hGg
        have hel : (q.eraseIdx k).length = q.length - 1 := List.length_eraseIdx_of_lt hkq
        obtain ⟨q2, hq2⟩ : ∃ q2, q2 = q.eraseIdx k := ⟨_, rfl⟩
        rw [← hq2] at HDR HGO hel
        have HEL := Aside0.mk hel
        have HQ2 := Aside0.mk hq2
        have hq2l : q2.length ≤ 40 := by omega
        have HK := Aside0.mk hk
        clear hid hdr hgo hha hrk hGg hel hq2 hq0
        have hcq' : wr.cell? (⟨g, k, none⟩ : Addr) = some (.int .i64 id) := by rw [add_plain] at hcq; exact hcq
        go_wp2_with fail
        refine (drop_yes wr _ b 32 false [] q id HA.out.bound (by omega) HHA.out).mono ?_
        rintro e w3 ⟨rfl, h3, hu3⟩
        rw [HDR.out] at h3
        have hz3 := hu3.size
        have HA3 := Aside0.mk h3
        have HV3 := Aside0.mk (R_upd' HV.out hu3 (fun k hk _ h => HD.out k h.1 hk))
        have HB3 := Aside0.mk (HBw.out.upd hzw hu3 (fun k hk => (HF.out k (.inl hk.1)).1))
        have hcq3 : w3.cell? ⟨g, k, none⟩ = some (.int .i64 id) := cell_kept hcq' hu3.kept (fun h => HD.out _ h.1 HGg.out)
        clear h3 hu3 HA HBw hcq hcq'
        go_wp2_with fail
        refine (drop_no w3 _ b 32 false [] q2 id HA3.out (by omega) HGO.out).mono ?_
        rintro e w4 ⟨rfl, hu4⟩
        have hz4 := hu4.size
        have HA4 := Aside0.mk (HA3.out.upd0 hu4)
        have HV4 := Aside0.mk (R_upd0 HV3.out hu4)
        have HB4 := Aside0.mk (HB3.out.upd (by omega) hu4 (fun k hk => hk.elim))
        clear hu4 HA3 HV3 HB3 hcq3 HV
        go_wp2_with fail
        refine (DelI.del_calls g cV k q w4 G HV4.out hkq).mono ?_
        rintro e wq ⟨rfl, hr5, hu5⟩
        rw [← HQ2.out, ← HEL.out] at hr5
        rw [← HEL.out]
        have hz5 := hu5.size
        have HA := Aside0.mk (HA4.out.upd' hu5 (fun k hk _ h => HD.out k hk.1 (h ▸ HGg.out)))
        have HV := Aside0.mk hr5
        have hgw := (HF.out g (.inr HGg.out)).1
        have HBw := Aside0.mk (HB4.out.upd (by omega) hu5 (fun k hk => by omega))
        have HF5 : Aside0 (∀ k, (F k ∧ k < wr.heap.size) ∨ G k → w.heap.size ≤ k ∧ k < wr.heap.size) := ⟨fun k hk => hk.elim (fun h => HF.out k (.inl h.1)) (fun h => HF.out k (.inr h))⟩
        have HD5 : Aside0 (∀ k, (F k ∧ k < wr.heap.size) → ¬ G k) := ⟨fun k hk h => HD.out k hk.1 h⟩
        clear hr5 hu5 HA4 HV4 HB4 HF HD
        have HF := HF5
        have HD := HD5
        clear HF5 HD5 HN
        go_wp2_with fail
        refine (show_calls wq _ b 32 false [] q2 A1 c1 m HA.out (C_came HM.out HBw.out b hwb) hm32 (by omega)).mono ?_
        rintro e w5 ⟨v5, rfl, hr5, h5, hu5⟩
        obtain ⟨A5, c5, rfl⟩ := Kd.R_slice hr5
        have hz5 := hu5.size
        have hFb := HA.out.1
        have HA5 : Aside0 (At w5 (fun k => k = b ∨ wq.heap.size ≤ k ∧ k < w5.heap.size) b 32 true m []) := ⟨h5.bound.mono (fun k hk => by omega)⟩
        have HR5 := Aside0.mk hr5
        have HV5 := Aside0.mk (R_upd' HV.out hu5 (fun k hk _ h => HD.out b hFb (h ▸ hk)))
        have HB5 := Aside0.mk (HBw.out.upd (by omega) hu5 (fun k hk => by omega))
        have HG5 : Aside0 (∀ k, G k → k ≠ b) := ⟨fun k hk h => HD.out b hFb (h ▸ hk)⟩
        clear hr5 h5 hu5 HA HV HF HD HBw hFb
        go_wp2_with fail
        refine (show_calls w5 _ b 32 true m [] A1 c1 m HA5.out (C_came HM.out HB5.out b hwb) hm32 (by omega)).mono ?_
        rintro e w6 ⟨v6, rfl, hr6, h6, hu6⟩
        obtain ⟨A6, c6, rfl⟩ := Kd.R_slice hr6
        have hz6 := hu6.size
        have HA6 : Aside0 (At w6 (fun k => (k = b ∨ w5.heap.size ≤ k) ∧ k < w6.heap.size) b 32 true m []) := ⟨h6.bound⟩
        have HR6 := Aside0.mk (Kd.R_reads' (R_upd' HR5.out hu6 (fun k hk _ h => hk.1.2 h))).2.2
        have HV6 := Aside0.mk (Kd.R_reads' (R_upd' HV5.out hu6 (fun k hk _ h => HG5.out k hk h))).2.2
        have HB6 := Aside0.mk (HB5.out.upd (by omega) hu6 (fun k hk => by omega))
        clear hr6 h6 hu6 HA5 HV5 HB5 HR5 HG5
        go_wp2_with fail
        refine (SameI.same_calls A5 c5 q2 (some ⟨g, 0, none⟩) cV q2 w6 HR6.out HV6.out).mono ?_
        rw [show eqB (q2) (q2) = true by simp [eqB]]
        rintro e w7 ⟨rfl, hq⟩
        have hz7 := (Upd.of_q hq).size
        have HA7 := Aside0.mk (HA6.out.upd0 (Upd.of_q hq))
        have HB7 := Aside0.mk (HB6.out.upd (by omega) (Upd.of_q hq) (fun _ h => h.elim))
        clear hq HA6 HB6 HR6 HV6
        go_wp2_with fail
        go_loopg [127] ids.length (fun g v127 wr => ∃ j : Nat, v127 = .int .i64 j ∧ j ≤ ids.length ∧ ids.length - j ≤ g ∧ Aside0 (At wr (fun k => (k = b ∨ w5.heap.size ≤ k) ∧ k < w6.heap.size) b 32 true m []) ∧ Aside0 (Below w.heap.size w wr))
        case atStart => exact ⟨0, rfl, Nat.zero_le _, by omega, HA7, HB7⟩
        case round =>
          clear HA7 HB7
          obtain ⟨j, rfl, hj, hg, HA, HBw⟩ := hrel
          have hzw := HBw.out.size
          by_cases hlt : j < ids.length
          · cases gk with
            | zero => omega
            | succ g1 =>
            obtain ⟨ad, hade, hcell⟩ := nums_at HR.out j hlt
            subst hade
            have hcw := pw_cell_below HBw.out hcell
            have b0 : (0 : Int) ≤ (j : Int) := by omega
            have b1 : (j : Int) < (ids.length : Int) := by omega
            have b2 : decide ((j : Int) < (ids.length : Int)) = true := by rw [decide_eq_true_eq]; omega
            go_wp2_with fail
            refine (read_yes wr _ b 32 m [] _ HA.out (by omega)).mono ?_
            rintro e w8 ⟨v8, rfl, hr8, hu8⟩
            obtain ⟨A8, c8, rfl⟩ := Kd.R_slice hr8
            have hz8 := hu8.size
            have HA8 := Aside0.mk (HA.out.upd0 hu8)
            have HR8 := Aside0.mk (Kd.R_reads' hr8).2.2
            have HB8 := Aside0.mk (HBw.out.upd (by omega) hu8 (fun _ h => h.elim))
            clear hr8 hu8 HA HBw hcw hcell
            go_wp2_with fail
            refine (SameU.same_calls A8 c8 m A1 c1 m w8 HR8.out (Kd.C_below HM.out HB8.out)).mono ?_
            rw [show eqB m m = true by simp [eqB]]
            rintro e w9 ⟨rfl, hq⟩
            have hz9 := (Upd.of_q hq).size
            have HA9 := Aside0.mk (HA8.out.upd0 (Upd.of_q hq))
            have HB9 := Aside0.mk (HB8.out.upd (by omega) (Upd.of_q hq) (fun _ h => h.elim))
            clear hq HA8 HB8 HR8
            go_wp2_with fail
            refine (waiting_calls w9 _ b 32 true m [] HA9.out (by simp)).mono ?_
            rintro e wa ⟨va, rfl, hra, hua⟩
            obtain ⟨Aa, ca, rfl⟩ := Kd.R_slice hra
            have HAa := Aside0.mk (HA9.out.upd0 hua)
            have HBa := Aside0.mk (HB9.out.upd (by omega) hua (fun _ h => h.elim))
            clear hra hua HA9 HB9
            go_wp2_with fail
            go_roundg g1
            case rel => exact ⟨j + 1, by go_num, by omega, by omega, HAa, HBa⟩
            case measure => omega
          · have b2 : decide ((j : Int) < (ids.length : Int)) = false := by rw [decide_eq_false_iff_not]; omega
            have b3 : (ids.length : Int) ≤ (j : Int) := by omega
            go_wp2_with fail
            go_ret
            exact ⟨rfl, HBw.out⟩
end Go.Proofs.Ytdmhlfjocajinaa.BdOnce
