import Derived.Test.YtdmhlfjocajinaaBdSp
import Derived.Test.YtdmhlfjocajinaaOwn3
set_option linter.unusedVariables false
set_option linter.unusedSimpArgs false
namespace Go.Proofs.Ytdmhlfjocajinaa.BdLast
attribute [local go_sem ↓] Go.wp_at_zero Go.wp_at_succ
open Go.RowKit Go.Proofs.YtdmhlfjocajinaaW.PrintWords Go.Proofs.Ytdmhlfjocajinaa.Own Go.Proofs.Ytdmhlfjocajinaa.Own2 Go.Proofs.Ytdmhlfjocajinaa.Own3 Go.Proofs.Ytdmhlfjocajinaa.Board Go.Proofs.Ytdmhlfjocajinaa.BdSp
abbrev mk : Kd (List Int) := Kd.slice 29 uk

set_option maxRecDepth 20000 in
set_option maxHeartbeats 8000000 in
theorem walk (w8 : Int) (A0 : Option Addr) (c0 : Nat) (l : List (List Int)) (w : World) (hw8 : (Lit.int .u8 w8).wf = true) (hr : mk.C w A0 l.length l) (hc : l.length ≤ c0) (_ : ∀ y ∈ l, ∀ z ∈ y, (Lit.int .u32 z).wf = true) :
    Calls Try.prog 4 #[.int .u8 w8, .slice A0 l.length c0] w fun e w' => e = .returned (.bool true) ∧ Below w.heap.size w w' := by
  obtain ⟨hw0, hw1⟩ : 0 ≤ w8 ∧ w8 ≤ 255 := by
    simp [Lit.wf, IntKind.min, IntKind.max, IntKind.signed, IntKind.bits] at hw8
    omega
  have HR := Aside0.mk hr
  clear hr hw8
  by_cases hl40 : l.length ≤ 40
  rotate_left
  · have e1 : decide ((l.length : Int) > 40) = true := by rw [decide_eq_true_eq]; omega
    have e2 : (40 : Int) < (l.length : Int) := by omega
    go_enter Try.func4, Try.ntmps4
    go_wp2_with fail
    refine (speaks_calls w).mono ?_
    rintro e w1 ⟨rfl, hu1⟩
    have U1 := Aside0.mk hu1
    clear hu1
    go_wp2_with fail
    refine (speaks_calls w1).mono ?_
    rintro e w2 ⟨rfl, hu2⟩
    have U2 := Aside0.mk (U1.out.step hu2)
    clear hu2
    go_wp2_with fail
    go_ret
    exact ⟨rfl, U2.out.to_below (Nat.le_refl _) (fun _ h => h.elim)⟩
  have e1 : decide ((l.length : Int) > 40) = false := by rw [decide_eq_false_iff_not]; omega
  have e2 : ¬ (40 : Int) < (l.length : Int) := by omega
  obtain ⟨n, hn, hn1, hn2⟩ : ∃ n : Nat, 1 + w8 % 32 = (n : Int) ∧ 1 ≤ n ∧ n ≤ 32 := ⟨(1 + w8 % 32).toNat, by omega, by omega, by omega⟩
  have HN := Aside0.mk hn
  clear hn
  go_enter Try.func4, Try.ntmps4
  go_wp2_with fail
  refine (speaks_calls w).mono ?_
  rintro e w1 ⟨rfl, hu1⟩
  have U1 := Aside0.mk hu1
  have hz1 := hu1.size
  clear hu1
  go_wp2_with fail
  rw [HN.out]
  refine (new_calls w1 n hn1 hn2).mono ?_
  rintro e w2 ⟨rfl, h2, hu2⟩
  obtain ⟨b, hb⟩ : ∃ b, b = w1.heap.size := ⟨_, rfl⟩
  rw [← hb] at h2 ⊢
  have hb2 := h2.lt
  have hwb : w.heap.size ≤ b := by omega
  have HS : Aside0 (At w2 (fun k => w.heap.size ≤ k ∧ k < w2.heap.size) b n false [] []) := ⟨h2.mono (fun k hk => by omega)⟩
  have HB2 : Aside0 (Below w.heap.size w w2) := ⟨(U1.out.step hu2).to_below (Nat.le_refl _) (fun _ h => h.elim)⟩
  clear h2 hu2 U1 hb
  go_wp2_with fail
  go_loopg [8, 9, 45] l.length (fun g v8 v9 v45 wr => ∃ (j : Nat) (any : Bool) (AX : Option Addr) (cX : Nat) (x : List Int), v45 = .int .i64 j ∧ v8 = .slice AX x.length cX ∧ v9 = .bool any ∧ j ≤ l.length ∧ l.length - j ≤ g ∧ x.length ≤ n ∧ Aside0 (any = false → x = []) ∧ Aside0 (uk.C w AX x.length x) ∧ Aside0 (At wr (fun k => w.heap.size ≤ k ∧ k < wr.heap.size) b n any x []) ∧ Aside0 (Below w.heap.size w wr))
  case atStart => exact ⟨0, false, none, 0, [], rfl, rfl, rfl, Nat.zero_le _, by omega, Nat.zero_le _, ⟨fun _ => rfl⟩, ⟨Kd.C_nil _ _⟩, HS, HB2⟩
  case round =>
    clear HS HB2
    obtain ⟨j, any, AX, cX, x, rfl, rfl, rfl, hj, hg, hxn, HE, HX, HA, HBw⟩ := hrel
    have hzw := HBw.out.size
    by_cases hlt : j < l.length
    · cases gk with
      | zero => omega
      | succ g1 =>
      obtain ⟨ad, Am, cm, rfl, hcell, hmc, hmC⟩ := rows_at HR.out j hlt
      obtain ⟨m, hm⟩ : ∃ m, m = l.getD j [] := ⟨_, rfl⟩
      rw [← hm] at hcell hmc hmC
      have hcw := pw_cell_below HBw.out hcell
      have HM := Aside0.mk hmC
      clear hm hcell hmC
      have b0 : (0 : Int) ≤ (j : Int) := by omega
      have b1 : (j : Int) < (l.length : Int) := by omega
      have b2 : decide ((j : Int) < (l.length : Int)) = true := by rw [decide_eq_true_eq]; omega
      by_cases hm60 : m.length ≤ 60
      · have e3 : decide ((m.length : Int) > 60) = false := by rw [decide_eq_false_iff_not]; omega
        have e4 : ¬ (60 : Int) < (m.length : Int) := by omega
        by_cases hmn : m.length ≤ n
        · have e5 : decide ((m.length : Int) ≤ (n : Int)) = true := by rw [decide_eq_true_eq]; omega
          go_wp2_with fail
          refine (show_calls wr _ b n any x [] Am cm m HA.out (C_came HM.out HBw.out b hwb) hmn (by omega)).mono ?_
          rintro e w3 ⟨v3, rfl, hr3, h3, hu3⟩
          obtain ⟨A3, c3, rfl⟩ := Kd.R_slice hr3
          have HA3 : Aside0 (At w3 (fun k => w.heap.size ≤ k ∧ k < w3.heap.size) b n true m []) := ⟨h3.bound.mono (fun k hk => ⟨by have := hk.1; omega, hk.2⟩)⟩
          have HB3 := Aside0.mk (HBw.out.upd hzw hu3 (fun k hk => by omega))
          have hz3 := hu3.size
          clear hr3 h3 hu3 HX HE HA HBw hcw
          have HA := HA3
          have HBw := HB3
          have HX := HM
          go_wp2_with fail
          refine (shown_yes w3 _ b n m [] HA.out (by omega)).mono ?_
          rintro e wa ⟨va, rfl, hra, hua⟩
          obtain ⟨Aa, ca, rfl⟩ := Kd.R_slice hra
          have HAa := Aside0.mk (HA.out.upd0 hua)
          have HBa := Aside0.mk (HBw.out.upd (by omega) hua (fun _ h => h.elim))
          have HRa := Aside0.mk (Kd.R_reads' hra).2.2
          have hzA := hua.size
          clear hra hua
          go_wp2_with fail
          refine (SameU.same_calls Aa ca m Am cm m wa HRa.out (Kd.C_below HX.out HBa.out)).mono ?_
          rw [show eqB m m = true by simp [eqB]]
          rintro e wb ⟨rfl, hq⟩
          have HAb := Aside0.mk (HAa.out.upd0 (Upd.of_q hq))
          have hzb := (Upd.of_q hq).size
          have HBb := Aside0.mk (HBa.out.upd (by omega) (Upd.of_q hq) (fun _ h => h.elim))
          clear hq HAa HBa HRa
          go_wp2_with fail
          refine (read_yes wb _ b n m [] _ HAb.out (by omega)).mono ?_
          rintro e wd ⟨vd, rfl, hrd, hud⟩
          obtain ⟨Ad, cd, rfl⟩ := Kd.R_slice hrd
          have HAd := Aside0.mk (HAb.out.upd0 hud)
          have HBd := Aside0.mk (HBb.out.upd (by omega) hud (fun _ h => h.elim))
          have HRd := Aside0.mk (Kd.R_reads' hrd).2.2
          have hzd := hud.size
          clear hrd hud HAb HBb
          go_wp2_with fail
          refine (SameU.same_calls Ad cd m Am cm m wd HRd.out (Kd.C_below HX.out HBd.out)).mono ?_
          rw [show eqB m m = true by simp [eqB]]
          rintro e we ⟨rfl, hq⟩
          have HAe := Aside0.mk (HAd.out.upd0 (Upd.of_q hq))
          have hze := (Upd.of_q hq).size
          have HBe := Aside0.mk (HBd.out.upd (by omega) (Upd.of_q hq) (fun _ h => h.elim))
          clear hq HAd HBd HRd
          go_wp2_with fail
          go_roundg g1
          case rel => exact ⟨j + 1, true, Am, cm, m, by go_num, rfl, rfl, by omega, by omega, by omega, ⟨fun h => by cases h⟩, HX, ⟨HAe.out.mono (fun k hk => by omega)⟩, HBe⟩
          case measure => omega
        · have e5 : decide ((m.length : Int) ≤ (n : Int)) = false := by rw [decide_eq_false_iff_not]; omega
          have e6 : (n : Int) < (m.length : Int) := by omega
          cases any with
          | true =>
            go_wp2_with fail
            refine (show_long wr _ b n true x [] Am m.length cm HA.out (by omega)).mono ?_
            rintro e w3 ⟨rfl, rfl⟩
            clear HE hcw
            go_wp2_with fail
            refine (shown_yes wr _ b n x [] HA.out (by omega)).mono ?_
            rintro e wa ⟨va, rfl, hra, hua⟩
            obtain ⟨Aa, ca, rfl⟩ := Kd.R_slice hra
            have HAa := Aside0.mk (HA.out.upd0 hua)
            have HBa := Aside0.mk (HBw.out.upd (by omega) hua (fun _ h => h.elim))
            have HRa := Aside0.mk (Kd.R_reads' hra).2.2
            have hzA := hua.size
            clear hra hua
            go_wp2_with fail
            refine (SameU.same_calls Aa ca x AX cX x wa HRa.out (Kd.C_below HX.out HBa.out)).mono ?_
            rw [show eqB x x = true by simp [eqB]]
            rintro e wb ⟨rfl, hq⟩
            have HAb := Aside0.mk (HAa.out.upd0 (Upd.of_q hq))
            have hzb := (Upd.of_q hq).size
            have HBb := Aside0.mk (HBa.out.upd (by omega) (Upd.of_q hq) (fun _ h => h.elim))
            clear hq HAa HBa HRa
            go_wp2_with fail
            refine (read_yes wb _ b n x [] _ HAb.out (by omega)).mono ?_
            rintro e wd ⟨vd, rfl, hrd, hud⟩
            obtain ⟨Ad, cd, rfl⟩ := Kd.R_slice hrd
            have HAd := Aside0.mk (HAb.out.upd0 hud)
            have HBd := Aside0.mk (HBb.out.upd (by omega) hud (fun _ h => h.elim))
            have HRd := Aside0.mk (Kd.R_reads' hrd).2.2
            have hzd := hud.size
            clear hrd hud HAb HBb
            go_wp2_with fail
            refine (SameU.same_calls Ad cd x AX cX x wd HRd.out (Kd.C_below HX.out HBd.out)).mono ?_
            rw [show eqB x x = true by simp [eqB]]
            rintro e we ⟨rfl, hq⟩
            have HAe := Aside0.mk (HAd.out.upd0 (Upd.of_q hq))
            have hze := (Upd.of_q hq).size
            have HBe := Aside0.mk (HBd.out.upd (by omega) (Upd.of_q hq) (fun _ h => h.elim))
            clear hq HAd HBd HRd
            go_wp2_with fail
            go_roundg g1
            case rel => exact ⟨j + 1, true, AX, cX, x, by go_num, rfl, rfl, by omega, by omega, by omega, ⟨fun h => by cases h⟩, HX, ⟨HAe.out.mono (fun k hk => by omega)⟩, HBe⟩
            case measure => omega
          | false =>
            have hx0 := HE.out rfl
            subst hx0
            go_wp2_with fail
            refine (show_long wr _ b n false [] [] Am m.length cm HA.out (by omega)).mono ?_
            rintro e w3 ⟨rfl, rfl⟩
            clear HE hcw
            go_wp2_with fail
            refine (shown_no wr _ b n [] [] HA.out).mono ?_
            rintro e wa ⟨rfl, rfl⟩
            go_wp2_with fail
            refine (SameU.same_calls none 0 [] AX cX [] wr (Kd.C_nil _ _) (Kd.C_below HX.out HBw.out)).mono ?_
            rw [show eqB [] [] = true by simp [eqB]]
            rintro e wb ⟨rfl, hq⟩
            have HAb := Aside0.mk (HA.out.upd0 (Upd.of_q hq))
            have hzb := (Upd.of_q hq).size
            have HBb := Aside0.mk (HBw.out.upd (by omega) (Upd.of_q hq) (fun _ h => h.elim))
            clear hq
            go_wp2_with fail
            go_roundg g1
            case rel => exact ⟨j + 1, false, AX, cX, [], by go_num, rfl, rfl, by omega, by omega, by omega, ⟨fun _ => rfl⟩, HX, ⟨HAb.out.mono (fun k hk => by omega)⟩, HBb⟩
            case measure => omega
      · have e3 : decide ((m.length : Int) > 60) = true := by rw [decide_eq_true_eq]; omega
        have e4 : (60 : Int) < (m.length : Int) := by omega
        go_wp2_with fail
        go_ret
        exact ⟨rfl, HBw.out⟩
    · have b2 : decide ((j : Int) < (l.length : Int)) = false := by rw [decide_eq_false_iff_not]; omega
      have b3 : (l.length : Int) ≤ (j : Int) := by omega
      go_wp2_with fail
      refine (clear_calls wr _ b n any x [] HA.out).mono ?_
      rintro e w3 ⟨rfl, h3, hu3⟩
      have HA3 := Aside0.mk h3
      have HB3 := Aside0.mk (HBw.out.upd hzw hu3 (fun k hk => by omega))
      have hz3 := hu3.size
      clear h3 hu3 HA HBw
      go_wp2_with fail
      refine (shown_no w3 _ b n [] [] HA3.out).mono ?_
      rintro e w4 ⟨rfl, rfl⟩
      go_wp2_with fail
      refine (waiting_calls w3 _ b n false [] [] HA3.out (by simp)).mono ?_
      rintro e w5 ⟨v5, rfl, hr5, hu5⟩
      obtain ⟨A5, c5, rfl⟩ := Kd.R_slice hr5
      have HB5 := Aside0.mk (HB3.out.upd (by omega) hu5 (fun k hk => hk.elim))
      clear hr5 hu5
      go_wp2_with fail
      go_ret
      exact ⟨rfl, HB5.out⟩
end Go.Proofs.Ytdmhlfjocajinaa.BdLast
