import Derived.Test.YtfmbpiimadljkaaEvDowns
import Derived.Test.YtfmbpiimadljkaaEvRef
set_option linter.unusedVariables false
set_option linter.unusedSimpArgs false
namespace Go.Proofs.Ytfmbpiimadljkaa.EvWakes
open Go.RowKit Go.Proofs.YtfmbpiimadljkaaW.PrintWords Go.Proofs.Ytfmbpiimadljkaa.Own Go.Proofs.Ytfmbpiimadljkaa.Ev Go.Proofs.Ytfmbpiimadljkaa.EvDowns Go.Proofs.Ytfmbpiimadljkaa.EvDrop Go.Proofs.Ytfmbpiimadljkaa.EvRef

theorem wait_len (wl : List Int) (x : Int) : (waitL false wl x).length ≤ wl.length + 1 := by
  unfold waitL
  split
  · omega
  · split <;> simp
theorem St.drop {w wr wr' : World} {b : Nat} {up : Bool} {l1' l2 : List Int} {v : Value} {F G : Nat → Prop} (hr : ints.R 3 wr 0 G v l2) (hd : ∀ k, F k → ¬ G k) (hF : ∀ k, F k → w.heap.size ≤ k) (hG : ∀ k, G k → w.heap.size ≤ k) (hb : Below w.heap.size w wr)
    (ha' : At wr' F b up l1') (hu : Upd wr wr' F) : St w wr' b up l1' v l2 := St.ev hr hd hF hG hb (ha'.mono (fun k hk => .inl hk)) hu
theorem St.upd {w wr w1 : World} {b : Nat} {up : Bool} {l1 l2 : List Int} {v : Value} (h : St w wr b up l1 v l2) (hu : Upd wr w1 (fun _ => False)) : St w w1 b up l1 v l2 := by
  obtain ⟨F, G, ha, hr, hd, hF, hG, hb⟩ := h
  exact ⟨F, G, ha.upd0 hu, R_upd0 hr hu, hd, hF, hG, hb.upd hb.size hu (fun _ h => h.elim)⟩

set_option maxRecDepth 20000 in
set_option maxHeartbeats 8000000 in
theorem walk (A : Option Addr) (c : Nat) (ids : List Int) (B : Option Addr) (d : Nat) (out : List Int) (w : World) (hr : ints.C w A ids.length ids) (hc : ids.length ≤ c) (_ : ∀ y ∈ ids, (Lit.int .i64 y).wf = true) (hr' : ints.C w B out.length out) (hc' : out.length ≤ d) (_ : ∀ y ∈ out, (Lit.int .i64 y).wf = true) :
    Calls Try.prog 4 #[.slice A ids.length c, .slice B out.length d] w fun e w' => e = .returned (.bool true) ∧ Below w.heap.size w w' := by
  have hm1 := Kd.C_max hr
  have hm2 := Kd.C_max hr'
  have HR := Aside0.mk hr
  have HR' := Aside0.mk hr'
  clear hr hr'
  go_enter Try.func4, Try.ntmps4
  go_wp2_with fail
  refine (new_calls w).mono ?_
  rintro e w1 ⟨rfl, ha1, hu1⟩
  have A1 := Aside0.mk ha1
  have U1 := Aside0.mk hu1
  clear ha1 hu1
  go_wp2_with fail
  refine (told_calls w1).mono ?_
  rintro e w2 ⟨rfl, hu2⟩
  have hS : St w w2 w.heap.size false [] (.slice none 0 0) [] :=
    ⟨_, fun _ => False, A1.out.upd0 hu2, Kd.R_nil _ _ _ _ _, fun _ _ h => h, fun k hk => hk, fun _ h => h.elim, (U1.out.step hu2).to_below (Nat.le_refl _) (fun _ h => h.elim)⟩
  have HS := Aside0.mk hS
  clear A1 U1 hu2 hS
  go_wp2_with fail
  go_loopg [6, 7] ids.length (fun g vw i wr => ∃ (j : Nat) (wl : List Int), i = .int .i64 j ∧ j ≤ ids.length ∧ j ≤ 60 ∧ ids.length - j ≤ g ∧ wl.length ≤ j ∧ Aside0 (St w wr w.heap.size false wl vw wl))
  case atStart => exact ⟨0, [], rfl, Nat.zero_le _, Nat.zero_le _, by omega, by simp, HS⟩
  case round =>
    clear HS
    obtain ⟨j, wl, rfl, hj, hj60, hg, hwl, HS⟩ := hrel
    by_cases hlt : j < ids.length ∧ j < 60
    · obtain ⟨hlt, hlt2⟩ := hlt
      cases gk with
      | zero => omega
      | succ g1 =>
      obtain ⟨ad, rfl, hcell0⟩ := Kd.at_int HR.out (j : Int) (by omega) (by omega)
      rw [Int.toNat_natCast] at hcell0
      obtain ⟨F, G, ha, hr, hd, hF, hG, hb⟩ := HS.out
      have A1 := Aside0.mk ha
      have R1 := Aside0.mk hr
      have D1 := Aside0.mk hd
      have F1 := Aside0.mk hF
      have G1 := Aside0.mk hG
      have B1 := Aside0.mk hb
      have HC := Aside0.mk hcell0
      have hcell := pw_cell_below hb hcell0
      clear ha hr hd hF hG hb HS hcell0
      obtain ⟨x, hx⟩ : ∃ x, x = rd ids j := ⟨_, rfl⟩
      rw [← hx] at hcell HC
      clear hx
      have b0 : (0 : Int) ≤ (j : Int) := by omega
      have b1 : (j : Int) < (ids.length : Int) := by omega
      have e1 : decide ((j : Int) < (ids.length : Int)) = true := by rw [decide_eq_true_eq]; omega
      have e2 : decide ((j : Int) < 60) = true := by rw [decide_eq_true_eq]; omega
      have b2 : (j : Int) < 60 := by omega
      go_wp2_with fail
      refine (wait_calls wr _ _ _ wl _ A1.out (by omega)).mono ?_
      rintro e w6 ⟨rfl, ha6, hu6⟩
      have hs6 := St.ev R1.out D1.out F1.out G1.out B1.out ha6 hu6
      have hle := wait_len wl x
      clear ha6 hu6 A1 R1 D1 F1 G1 B1 hcell
      obtain ⟨F, G, ha, hr, hd, hF, hG, hb⟩ := hs6
      obtain ⟨Aw, cw, rfl⟩ := Kd.R_slice hr
      have RC := Aside0.mk (Kd.R_reads' hr).2.2
      have A2 := Aside0.mk ha
      have R2 := Aside0.mk hr
      have D2 := Aside0.mk hd
      have F2 := Aside0.mk hF
      have G2 := Aside0.mk hG
      have B2 := Aside0.mk hb
      have hcell := pw_cell_below hb HC.out
      clear ha hr hd hF hG hb
      go_wp2_with fail
      refine (HasR.has_calls Aw cw wl x w6 RC.out).mono ?_
      cases hh : hasB wl x
      · have hwt : waitL false wl x = wl ++ [x] := by unfold waitL; rw [hh]; simp
        rw [hwt] at hle A2
        clear hh hwt
        rintro e w7 ⟨rfl, rfl⟩
        go_wp2_with (at_builtin; refine Kd.R_append ints (w0 := w6) 0 rfl (.tmp 39) (.tmp 44) 22 3 (.int .i64 0) 8 rfl Try.underlying22 SlI.info rfl (by decide) (by omega) (.slice Aw wl.length cw) wl x [.int .i64 x] (fun k => G k ∨ w6.heap.size ≤ k) (fun _ => False) rfl rfl ?aP (fun _ hk => hk.elim) ?aF ?aO ?aB ?aS ?aL ?_)
        case aP => exact rfl
        case aF => exact fun k hk => .inr hk
        case aO => exact Kd.R_mono R2.out (fun k hk => .inl hk)
        case aB => exact Below.refl _ _
        case aS => omega
        case aL => omega
        intro v7 w7 ho hb7 hg7 hat
        have hu7 : Upd w6 w7 G := Upd.of_grown hg7 (fun k hk => R2.out.1 k hk)
        have S7 := Aside0.mk (St.row A2.out D2.out F2.out G2.out B2.out ho hu7)
        clear ho hb7 hg7 hat hu7 A2 R2 D2 F2 G2 B2 RC hcell
        obtain ⟨l7, hl7⟩ : ∃ l7, l7 = wl ++ [x] := ⟨_, rfl⟩
        rw [← hl7] at S7 hle
        clear hl7
        go_wp2
        go_roundg g1
        case rel => exact ⟨j + 1, l7, by go_num, by omega, by omega, by omega, by omega, S7⟩
        case measure => omega
      · have hwt : waitL false wl x = wl := by unfold waitL; rw [hh]; simp
        rw [hwt] at hle A2
        clear hh hwt
        rintro e w7 ⟨rfl, rfl⟩
        have S7 : Aside0 (St w w6 w.heap.size false wl (.slice Aw wl.length cw) wl) := ⟨_, _, A2.out, R2.out, D2.out, F2.out, G2.out, B2.out⟩
        clear A2 R2 D2 F2 G2 B2 RC
        go_wp2_with fail
        go_roundg g1
        case rel => exact ⟨j + 1, wl, by go_num, by omega, by omega, by omega, by omega, S7⟩
        case measure => omega
    · go_upto_region 6 with fail
      go_cut [23] (fun s23 wc => s23 = .bool false ∧ wc = wr)
      case first =>
        by_cases hlt1 : j < ids.length
        · have e1 : decide ((j : Int) < (ids.length : Int)) = true := by rw [decide_eq_true_eq]; omega
          have e2 : decide ((j : Int) < 60) = false := by rw [decide_eq_false_iff_not]; omega
          have e3 : (60 : Int) ≤ (j : Int) := by omega
          have e4 : (j : Int) < (ids.length : Int) := by omega
          go_wp2_with fail
          go_meet
          exact ⟨rfl, rfl⟩
        · have e1 : decide ((j : Int) < (ids.length : Int)) = false := by rw [decide_eq_false_iff_not]; omega
          have e3 : (ids.length : Int) ≤ (j : Int) := by omega
          go_wp2_with fail
          go_meet
          exact ⟨rfl, rfl⟩
      case rest =>
        obtain ⟨rfl, rfl⟩ := hcut
        clear hg hlt
        go_wp2_with fail
        have hwl60 : wl.length ≤ 60 := by omega
        clear hwl hj hj60
        go_loopg [6, 8] out.length (fun g vw i wr => ∃ (j : Nat) (wl : List Int), i = .int .i64 j ∧ j ≤ out.length ∧ j ≤ 60 ∧ out.length - j ≤ g ∧ wl.length ≤ 60 ∧ Aside0 (St w wr w.heap.size false wl vw wl))
        case atStart => exact ⟨0, wl, rfl, Nat.zero_le _, Nat.zero_le _, by omega, hwl60, HS⟩
        case round =>
          clear HS hwl60
          obtain ⟨j, wl, rfl, hj, hj60, hg, hwl, HS⟩ := hrel
          by_cases hlt : j < out.length ∧ j < 60
          · obtain ⟨hlt, hlt2⟩ := hlt
            cases gk with
            | zero => omega
            | succ g1 =>
            obtain ⟨ad, rfl, hcell0⟩ := Kd.at_int HR'.out (j : Int) (by omega) (by omega)
            rw [Int.toNat_natCast] at hcell0
            obtain ⟨F, G, ha, hr, hd, hF, hG, hb⟩ := HS.out
            obtain ⟨Aw, cw, rfl⟩ := Kd.R_slice hr
            have A1 := Aside0.mk ha
            have R1 := Aside0.mk hr
            have D1 := Aside0.mk hd
            have F1 := Aside0.mk hF
            have G1 := Aside0.mk hG
            have B1 := Aside0.mk hb
            have HC := Aside0.mk hcell0
            have hcell := pw_cell_below hb hcell0
            clear ha hr hd hF hG hb HS hcell0
            obtain ⟨x, hx⟩ : ∃ x, x = rd out j := ⟨_, rfl⟩
            rw [← hx] at hcell HC
            clear hx
            have b0 : (0 : Int) ≤ (j : Int) := by omega
            have b1 : (j : Int) < (out.length : Int) := by omega
            have e1 : decide ((j : Int) < (out.length : Int)) = true := by rw [decide_eq_true_eq]; omega
            have e2 : decide ((j : Int) < 60) = true := by rw [decide_eq_true_eq]; omega
            have b2 : (j : Int) < 60 := by omega
            have hwo : (without wl x).length ≤ 60 := Nat.le_trans (without_len wl x) hwl
            have dropR : Aside0 (∀ X, Upd wr X (fun _ => False) → Calls Try.prog 17 #[.pointer (some ⟨w.heap.size, 0, none⟩), .int .i64 x] X fun e w6 => e = .returned (.bool (hasB wl x)) ∧ w6.cell? (ad.add j) = some (.int .i64 x) ∧ St w w6 w.heap.size false (without wl x) (.slice Aw wl.length cw) wl) := ⟨by
              intro X hX
              refine (drop_calls X _ _ _ wl x (A1.out.upd0 hX)).mono ?_
              rintro e w6 ⟨rfl, ha6, hu6⟩
              have hs := St.drop (R_upd0 R1.out hX) D1.out F1.out G1.out (B1.out.upd B1.out.size hX (fun _ h => h.elim)) ha6 hu6
              obtain ⟨F', G', _, _, _, _, _, hb'⟩ := id hs
              exact ⟨rfl, pw_cell_below hb' HC.out, hs⟩⟩
            have RC := Aside0.mk (Kd.R_reads' R1.out).2.2
            have hne : (hasB wl x != hasB wl x) = false := by simp
            clear R1 A1 D1 F1 G1 B1
            go_upto_region 15 with fail
            go_cut [68] (fun s68 wc => s68 = .bool false ∧ wc.cell? (ad.add j) = some (.int .i64 x) ∧ St w wc w.heap.size false (without wl x) (.slice Aw wl.length cw) wl)
            case first =>
              go_region_held3 (fun w' => w'.cell? (ad.add j) = some (.int .i64 x)) (first | go_keep | exact k0)
                (first
                  | (go_at_call 17; refine (dropR.out _ (Upd.refl _ _).drew).mono ?_; rintro e w6 ⟨rfl, k0, hs⟩; have RC := Aside0.mk (Kd.R_reads' (Exists.choose_spec (Exists.choose_spec hs)).2.1).2.2; have S6 := Aside0.mk hs; clear hs)
                  | (go_at_call 14; refine (HasR.has_calls Aw cw wl x _ RC.out).mono ?_; rintro e w7 ⟨rfl, rfl⟩))
              all_goals
                go_wp2_with fail
                go_meet
                exact ⟨by simp, k0, S6.out⟩
            case rest =>
              obtain ⟨rfl, hc6, hs6⟩ := hcut
              clear hcell HC dropR RC hne
              obtain ⟨F, G, ha, hr, hd, hF, hG, hb⟩ := hs6
              have A1 := Aside0.mk ha
              have R1 := Aside0.mk hr
              have D1 := Aside0.mk hd
              have F1 := Aside0.mk hF
              have B1 := Aside0.mk hb
              clear ha hr hd hF hG hb
              go_wp2_with fail
              refine (without_calls Aw cw wl x wc (Kd.R_reads' R1.out).2.2 (by omega)).mono ?_
              rintro e w7 ⟨v7, rfl, hr7, hu7⟩
              have S7 : Aside0 (St w w7 w.heap.size false (without wl x) v7 (without wl x)) := ⟨_, _, A1.out.bound.upd0 hu7, hr7, fun k hk h => by omega, fun k hk => F1.out k hk.1, fun k hk => by have := B1.out.size; omega, B1.out.upd B1.out.size hu7 (fun _ h => h.elim)⟩
              clear A1 R1 D1 F1 B1 hr7 hu7
              go_wp2_with fail
              go_roundg g1
              case rel => exact ⟨j + 1, without wl x, by go_num, by omega, by omega, by omega, hwo, S7⟩
              case measure => omega
          · go_upto_region 13 with fail
            go_cut [53] (fun s53 wc => s53 = .bool false ∧ wc = wr)
            case first =>
              by_cases hlt1 : j < out.length
              · have e1 : decide ((j : Int) < (out.length : Int)) = true := by rw [decide_eq_true_eq]; omega
                have e2 : decide ((j : Int) < 60) = false := by rw [decide_eq_false_iff_not]; omega
                have e3 : (60 : Int) ≤ (j : Int) := by omega
                have e4 : (j : Int) < (out.length : Int) := by omega
                go_wp2_with fail
                go_meet
                exact ⟨rfl, rfl⟩
              · have e1 : decide ((j : Int) < (out.length : Int)) = false := by rw [decide_eq_false_iff_not]; omega
                have e3 : (out.length : Int) ≤ (j : Int) := by omega
                go_wp2_with fail
                go_meet
                exact ⟨rfl, rfl⟩
            case rest =>
              obtain ⟨rfl, rfl⟩ := hcut
              clear hg hlt
              obtain ⟨F, G, ha, hr, hd, hF, hG, hb⟩ := HS.out
              obtain ⟨Aw, cw, rfl⟩ := Kd.R_slice hr
              have A1 := Aside0.mk ha
              have R1 := Aside0.mk hr
              have D1 := Aside0.mk hd
              have B1 := Aside0.mk hb
              have F1 := Aside0.mk hF
              clear ha hr hd hF hG hb HS
              go_wp2_with fail
              refine (set_calls wc _ _ _ _ A1.out).mono ?_
              rintro e w5 ⟨v5, rfl, hr5, ha5, hu5⟩
              obtain ⟨A5, c5, rfl⟩ := Kd.R_slice hr5
              have RC := Aside0.mk (Kd.R_reads' hr5).2.2
              have RC' := Aside0.mk (Kd.R_reads' (R_upd' R1.out hu5 (fun k hk _ h => D1.out k (by rw [h]; exact A1.out.1) hk))).2.2
              have B5 := Aside0.mk (B1.out.upd B1.out.size hu5 (fun k hk => by rw [hk]; exact Nat.le_refl _))
              have A5' := Aside0.mk ha5
              clear A1 R1 D1 B1 F1 hr5 ha5 hu5
              go_wp2_with fail
              refine (SameR.same_calls A5 c5 wl Aw cw wl w5 RC.out RC'.out).mono ?_
              rw [show eqB wl wl = true by simp [eqB]]
              rintro e w6 ⟨rfl, hq6⟩
              have hu6 := Upd.of_q hq6
              have A6 := Aside0.mk (A5'.out.upd0 hu6)
              have B6 := Aside0.mk (B5.out.upd B5.out.size hu6 (fun _ h => h.elim))
              clear hq6 hu6 B5 A5' RC RC'
              go_wp2_with fail
              refine (set_calls w6 _ _ _ _ A6.out).mono ?_
              rintro e w7 ⟨v7, rfl, hr7, ha7, hu7⟩
              obtain ⟨A7, c7, rfl⟩ := Kd.R_slice hr7
              have A7' := Aside0.mk ha7
              have B7 := Aside0.mk (B6.out.upd B6.out.size hu7 (fun k hk => by rw [hk]; exact Nat.le_refl _))
              clear hr7 ha7 hu7 A6 B6
              go_wp2_with fail
              refine (up_calls w7 _ _ _ _ A7'.out).mono ?_
              rintro e w8 ⟨rfl, rfl⟩
              go_wp2_with fail
              go_ret
              exact ⟨rfl, B7.out⟩
end Go.Proofs.Ytfmbpiimadljkaa.EvWakes
