import Derived.Test.YtfmbpiimadljkaaEv
set_option linter.unusedVariables false
set_option linter.unusedSimpArgs false
namespace Go.Proofs.Ytfmbpiimadljkaa.EvDowns
attribute [local go_sem] Go.Proofs.Ytfmbpiimadljkaa.Own.min_two Go.Proofs.Ytfmbpiimadljkaa.Own.min2_mn
open Go.RowKit Go.Proofs.YtfmbpiimadljkaaW.PrintWords Go.Proofs.Ytfmbpiimadljkaa.Own Go.Proofs.Ytfmbpiimadljkaa.Ev

/-- The Event, and a list of the call's own beside it. -/
def St (w wr : World) (b : Nat) (up : Bool) (l1 : List Int) (v : Value) (l2 : List Int) : Prop :=
  ∃ F G, At wr F b up l1 ∧ ints.R 3 wr 0 G v l2 ∧ (∀ k, F k → ¬ G k) ∧ (∀ k, F k → w.heap.size ≤ k) ∧ (∀ k, G k → w.heap.size ≤ k) ∧ Below w.heap.size w wr

theorem St.ev {w wr wr' : World} {b : Nat} {up' : Bool} {l1' l2 : List Int} {v : Value} {F G : Nat → Prop} (hr : ints.R 3 wr 0 G v l2) (hd : ∀ k, F k → ¬ G k) (hF : ∀ k, F k → w.heap.size ≤ k) (hG : ∀ k, G k → w.heap.size ≤ k) (hb : Below w.heap.size w wr)
    (ha' : At wr' (fun k => F k ∨ wr.heap.size ≤ k) b up' l1') (hu : Upd wr wr' F) : St w wr' b up' l1' v l2 := by
  have hr' := R_upd hr hu (fun k hk _ hf => hd k hf hk)
  refine ⟨_, _, ha', hr', ?_, ?_, fun k hk => hG k hk.1, hb.upd hb.size hu hF⟩
  · rintro k (hk | hk) ⟨h1, h2⟩
    · exact hd k hk h1
    · omega
  · rintro k (hk | hk)
    · exact hF k hk
    · have := hb.size; omega
theorem St.row {w wr wr' : World} {b : Nat} {up : Bool} {l1 l2' : List Int} {v' : Value} {F G : Nat → Prop} (ha : At wr F b up l1) (hd : ∀ k, F k → ¬ G k) (hF : ∀ k, F k → w.heap.size ≤ k) (hG : ∀ k, G k → w.heap.size ≤ k) (hb : Below w.heap.size w wr)
    (hr' : ints.R 3 wr' 0 (fun k => G k ∨ wr.heap.size ≤ k) v' l2') (hu : Upd wr wr' G) : St w wr' b up l1 v' l2' := by
  have ha' := ha.upd hu (fun k hk _ hg => hd k hk hg)
  refine ⟨_, _, ha', hr', ?_, fun k hk => hF k hk.1, ?_, hb.upd hb.size hu hG⟩
  · rintro k ⟨h1, h2⟩ (hk | hk)
    · exact hd k h1 hk
    · omega
  · rintro k (hk | hk)
    · exact hG k hk
    · have := hb.size; omega

set_option maxHeartbeats 2000000 in
theorem walk (A : Option Addr) (c : Nat) (ids : List Int) (at_ : Int) (w : World) (hr : ints.C w A ids.length ids) (hc : ids.length ≤ c) (_ : ∀ y ∈ ids, (Lit.int .i64 y).wf = true) (_ : (Lit.int .i64 at_).wf = true) :
    Calls Try.prog 3 #[.slice A ids.length c, .int .i64 at_] w fun e w' => e = .returned (.bool true) ∧ Below w.heap.size w w' := by
  have hcut := cut_min 22 3 Try.underlying22 SlI.info A ids c 60 60 rfl hc
  obtain ⟨l, hl⟩ : ∃ l, l = ids.take 60 := ⟨_, rfl⟩
  have hll : l.length ≤ 60 := by rw [hl, List.length_take]; omega
  have hlr : ints.C w A l.length l := by rw [hl]; exact C_take hr 60
  rw [← hl] at hcut
  have HR := Aside0.mk hlr
  clear hr hlr hl
  go_enter Try.func3, Try.ntmps3
  go_wp2_with fail
  refine (new_calls w).mono ?_
  rintro e w1 ⟨rfl, ha1, hu1⟩
  have A1 := Aside0.mk ha1
  have U1 := Aside0.mk hu1
  clear ha1 hu1
  go_wp2_with fail
  refine (told_calls w1).mono ?_
  rintro e w2 ⟨rfl, hu2⟩
  have A2 := Aside0.mk (A1.out.upd0 hu2)
  have U2 := Aside0.mk (U1.out.step hu2)
  clear A1 U1 hu2
  go_wp2_with fail
  obtain ⟨m, hm, hme⟩ := u64_mod at_ ((l.length : Int) + 1) (by omega) (by omega)
  rw [hme]
  clear hme
  refine (set_calls w2 _ _ _ _ A2.out).mono ?_
  rintro e w3 ⟨v3, rfl, hr3, ha3, hu3⟩
  have hS : St w w3 w.heap.size true [] (.slice none 0 0) [] :=
    ⟨_, fun _ => False, ha3, Kd.R_nil _ _ _ _ _, fun _ _ h => h, fun k hk => by rw [hk]; exact Nat.le_refl _, fun k hk => hk.elim, (U2.out.to_below (Nat.le_refl _) (fun _ h => h.elim)).upd U2.out.size hu3 (fun k hk => by rw [hk]; exact Nat.le_refl _)⟩
  have HS := Aside0.mk hS
  clear hS hr3 ha3 hu3 A2 U2
  go_wp2_with fail
  go_loopg [7, 8] l.length (fun g vw i wr => ∃ (j : Nat) (wl : List Int), i = .int .i64 j ∧ j ≤ l.length ∧ l.length - j ≤ g ∧ wl.length ≤ j ∧ Aside0 (j ≤ m → wl = []) ∧ Aside0 (St w wr w.heap.size (decide (j ≤ m)) wl vw wl))
  case atStart => exact ⟨0, [], rfl, Nat.zero_le _, by omega, by simp, ⟨fun _ => rfl⟩, ⟨by simpa using HS.out⟩⟩
  case round =>
    clear HS
    obtain ⟨j, wl, rfl, hj, hg, hwl, H0, HS⟩ := hrel
    by_cases hlt : j < l.length
    · cases gk with
      | zero => omega
      | succ g1 =>
      obtain ⟨ad, rfl, hcell0⟩ := Kd.at_int HR.out (j : Int) (by omega) (by omega)
      rw [Int.toNat_natCast] at hcell0
      have HC : Aside0 (∀ W, Below w.heap.size w W → W.cell? (ad.add j) = some (.int .i64 (rd l j))) := ⟨fun W hW => pw_cell_below hW hcell0⟩
      clear hcell0
      have b0 : (0 : Int) ≤ (j : Int) := by omega
      have b1 : (j : Int) < (l.length : Int) := by omega
      by_cases hjm : j < m
      · have e1 : ((j : Int) == (m : Int)) = false := by rw [beq_eq_false_iff_ne]; omega
        have e2 : decide ((j : Int) < (m : Int)) = true := by rw [decide_eq_true_eq]; omega
        have e3 : decide ((j : Int) ≥ (m : Int)) = false := by rw [decide_eq_false_iff_not]; omega
        have hwl0 : wl = [] := H0.out (by omega)
        subst hwl0
        have hs := HS.out
        rw [show decide (j ≤ m) = true by rw [decide_eq_true_eq]; omega] at hs
        obtain ⟨F, G, ha, hr, hd, hF, hG, hb⟩ := hs
        have A1 := Aside0.mk ha
        have R1 := Aside0.mk hr
        have D1 := Aside0.mk hd
        have F1 := Aside0.mk hF
        have G1 := Aside0.mk hG
        have B1 := Aside0.mk hb
        have hcell := HC.out _ hb
        clear ha hr hd hF hG hb HS
        go_wp2_with fail
        refine (wait_calls wr _ _ _ _ _ A1.out (by simp)).mono ?_
        rintro e w5 ⟨rfl, ha5, hu5⟩
        have S5 := Aside0.mk (St.ev R1.out D1.out F1.out G1.out B1.out ha5 hu5)
        clear ha5 hu5 A1 R1 D1 F1 G1 B1
        go_wp2_with fail
        go_roundg g1
        case rel => exact ⟨j + 1, [], by go_num, by omega, by omega, by simp, ⟨fun _ => rfl⟩, ⟨by rw [show decide (j + 1 ≤ m) = true by rw [decide_eq_true_eq]; omega]; exact S5.out⟩⟩
        case measure => omega
      · have e2 : decide ((j : Int) < (m : Int)) = false := by rw [decide_eq_false_iff_not]; omega
        have e3 : decide ((j : Int) ≥ (m : Int)) = true := by rw [decide_eq_true_eq]; omega
        have e4 : decide ((m : Int) ≤ (j : Int)) = true := by rw [decide_eq_true_eq]; omega
        have hlater : Aside0 (∀ (wl : List Int), wl.length ≤ j → ∀ n, (n = waitL false wl (rd l j)) → n.length ≤ j + 1) := ⟨fun wl hw n hn => by
          subst hn
          unfold waitL
          split
          · omega
          · split
            · omega
            · simp; omega⟩
        have hnext : Aside0 (decide (j + 1 ≤ m) = false) := ⟨by rw [decide_eq_false_iff_not]; omega⟩
        by_cases hje : j = m
        · subst hje
          have e1 : ((j : Int) == (j : Int)) = true := by simp
          have hs := HS.out
          rw [show decide (j ≤ j) = true by simp] at hs
          obtain ⟨F, G, ha, hr, hd, hF, hG, hb⟩ := hs
          have A1 := Aside0.mk ha
          have R1 := Aside0.mk hr
          have D1 := Aside0.mk hd
          have F1 := Aside0.mk hF
          have G1 := Aside0.mk hG
          have B1 := Aside0.mk hb
          clear ha hr hd hF hG hb HS
          go_wp2_with fail
          refine (reset_calls wr _ _ _ _ A1.out).mono ?_
          rintro e w5 ⟨rfl, ha5, hu5⟩
          have hs5 : St w w5 w.heap.size false wl u7 wl := St.ev R1.out D1.out F1.out G1.out B1.out (ha5.mono (fun k hk => .inl hk)) (hu5.mono (fun k hk => by rw [hk]; exact A1.out.1))
          clear ha5 hu5 A1 R1 D1 F1 G1 B1
          obtain ⟨F, G, ha, hr, hd, hF, hG, hb⟩ := hs5
          have A1 := Aside0.mk ha
          have R1 := Aside0.mk hr
          have D1 := Aside0.mk hd
          have F1 := Aside0.mk hF
          have G1 := Aside0.mk hG
          have B1 := Aside0.mk hb
          have hcell := HC.out _ hb
          clear ha hr hd hF hG hb
          go_wp2_with fail
          refine (wait_calls w5 _ _ _ wl _ A1.out (by omega)).mono ?_
          rintro e w6 ⟨rfl, ha6, hu6⟩
          have hs6 := St.ev R1.out D1.out F1.out G1.out B1.out ha6 hu6
          have hle := hlater.out wl hwl _ rfl
          clear ha6 hu6 A1 R1 D1 F1 G1 B1 hcell
          obtain ⟨F, G, ha, hr, hd, hF, hG, hb⟩ := hs6
          obtain ⟨Aw, cw, rfl⟩ := Kd.R_slice hr
          have RC := Aside0.mk (Kd.R_reads' hr).2.2
          have A2 := Aside0.mk ha
          have R2 := Aside0.mk hr
          have D2 := Aside0.mk hd
          have F2 := Aside0.mk hF
          have G2 := Aside0.mk hG
          have B2 := Aside0.mk hb
          have hcell := HC.out _ hb
          clear ha hr hd hF hG hb
          go_wp2_with fail
          refine (HasR.has_calls Aw cw wl (rd l j) w6 RC.out).mono ?_
          cases hh : hasB wl (rd l j)
          · have hwt : waitL false wl (rd l j) = wl ++ [rd l j] := by unfold waitL; rw [hh]; simp
            have HW := Aside0.mk hwt
            rw [hwt] at hle A2
            clear hh hwt
            rintro e w7 ⟨rfl, rfl⟩
            go_wp2_with (at_builtin; refine Kd.R_append ints (w0 := w6) 0 rfl (.tmp 64) (.tmp 69) 22 3 (.int .i64 0) 8 rfl Try.underlying22 SlI.info rfl (by decide) (by omega) (.slice Aw wl.length cw) wl (rd l j) [.int .i64 (rd l j)] (fun k => G k ∨ w6.heap.size ≤ k) (fun _ => False) rfl rfl ?aP (fun _ hk => hk.elim) ?aF ?aO ?aB ?aS ?aL ?_)
            case aP => exact rfl
            case aF => exact fun k hk => .inr hk
            case aO => exact Kd.R_mono R2.out (fun k hk => .inl hk)
            case aB => exact Below.refl _ _
            case aS => omega
            case aL => omega
            intro v7 w7 ho hb7 hg7 hat
            have hu7 : Upd w6 w7 G := Upd.of_grown hg7 (fun k hk => R2.out.1 k hk)
            have S7 := Aside0.mk (St.row A2.out D2.out F2.out G2.out B2.out ho hu7)
            clear ho hb7 hg7 hat hu7 A2 R2 D2 F2 G2 B2 RC hcell
            obtain ⟨l7, hl7⟩ : ∃ l7, l7 = wl ++ [rd l j] := ⟨_, rfl⟩
            rw [← hl7] at S7 hle
            clear hl7 HW
            go_wp2
            go_roundg g1
            case rel => exact ⟨j + 1, l7, by go_num, by omega, by omega, hle, ⟨fun h => by omega⟩, ⟨by rw [hnext.out]; exact S7.out⟩⟩
            case measure => omega
          · have hwt : waitL false wl (rd l j) = wl := by unfold waitL; rw [hh]; simp
            rw [hwt] at hle A2
            clear hh hwt
            rintro e w7 ⟨rfl, rfl⟩
            have S7 : Aside0 (St w w6 w.heap.size false wl (.slice Aw wl.length cw) wl) := ⟨_, _, A2.out, R2.out, D2.out, F2.out, G2.out, B2.out⟩
            clear A2 R2 D2 F2 G2 B2 RC
            go_wp2_with fail
            go_roundg g1
            case rel => exact ⟨j + 1, wl, by go_num, by omega, by omega, hle, ⟨fun h => by omega⟩, ⟨by rw [hnext.out]; exact S7.out⟩⟩
            case measure => omega
        · have e1 : ((j : Int) == (m : Int)) = false := by rw [beq_eq_false_iff_ne]; omega
          have hs := HS.out
          rw [show decide (j ≤ m) = false by rw [decide_eq_false_iff_not]; omega] at hs
          obtain ⟨F, G, ha, hr, hd, hF, hG, hb⟩ := hs
          have A1 := Aside0.mk ha
          have R1 := Aside0.mk hr
          have D1 := Aside0.mk hd
          have F1 := Aside0.mk hF
          have G1 := Aside0.mk hG
          have B1 := Aside0.mk hb
          have hcell := HC.out _ hb
          clear ha hr hd hF hG hb HS
          go_wp2_with fail
          refine (wait_calls wr _ _ _ wl _ A1.out (by omega)).mono ?_
          rintro e w6 ⟨rfl, ha6, hu6⟩
          have hs6 := St.ev R1.out D1.out F1.out G1.out B1.out ha6 hu6
          have hle := hlater.out wl hwl _ rfl
          clear ha6 hu6 A1 R1 D1 F1 G1 B1 hcell
          obtain ⟨F, G, ha, hr, hd, hF, hG, hb⟩ := hs6
          obtain ⟨Aw, cw, rfl⟩ := Kd.R_slice hr
          have RC := Aside0.mk (Kd.R_reads' hr).2.2
          have A2 := Aside0.mk ha
          have R2 := Aside0.mk hr
          have D2 := Aside0.mk hd
          have F2 := Aside0.mk hF
          have G2 := Aside0.mk hG
          have B2 := Aside0.mk hb
          have hcell := HC.out _ hb
          clear ha hr hd hF hG hb
          go_wp2_with fail
          refine (HasR.has_calls Aw cw wl (rd l j) w6 RC.out).mono ?_
          cases hh : hasB wl (rd l j)
          · have hwt : waitL false wl (rd l j) = wl ++ [rd l j] := by unfold waitL; rw [hh]; simp
            have HW := Aside0.mk hwt
            rw [hwt] at hle A2
            clear hh hwt
            rintro e w7 ⟨rfl, rfl⟩
            go_wp2_with (at_builtin; refine Kd.R_append ints (w0 := w6) 0 rfl (.tmp 64) (.tmp 69) 22 3 (.int .i64 0) 8 rfl Try.underlying22 SlI.info rfl (by decide) (by omega) (.slice Aw wl.length cw) wl (rd l j) [.int .i64 (rd l j)] (fun k => G k ∨ w6.heap.size ≤ k) (fun _ => False) rfl rfl ?aP (fun _ hk => hk.elim) ?aF ?aO ?aB ?aS ?aL ?_)
            case aP => exact rfl
            case aF => exact fun k hk => .inr hk
            case aO => exact Kd.R_mono R2.out (fun k hk => .inl hk)
            case aB => exact Below.refl _ _
            case aS => omega
            case aL => omega
            intro v7 w7 ho hb7 hg7 hat
            have hu7 : Upd w6 w7 G := Upd.of_grown hg7 (fun k hk => R2.out.1 k hk)
            have S7 := Aside0.mk (St.row A2.out D2.out F2.out G2.out B2.out ho hu7)
            clear ho hb7 hg7 hat hu7 A2 R2 D2 F2 G2 B2 RC hcell
            obtain ⟨l7, hl7⟩ : ∃ l7, l7 = wl ++ [rd l j] := ⟨_, rfl⟩
            rw [← hl7] at S7 hle
            clear hl7 HW
            go_wp2
            go_roundg g1
            case rel => exact ⟨j + 1, l7, by go_num, by omega, by omega, hle, ⟨fun h => by omega⟩, ⟨by rw [hnext.out]; exact S7.out⟩⟩
            case measure => omega
          · have hwt : waitL false wl (rd l j) = wl := by unfold waitL; rw [hh]; simp
            rw [hwt] at hle A2
            clear hh hwt
            rintro e w7 ⟨rfl, rfl⟩
            have S7 : Aside0 (St w w6 w.heap.size false wl (.slice Aw wl.length cw) wl) := ⟨_, _, A2.out, R2.out, D2.out, F2.out, G2.out, B2.out⟩
            clear A2 R2 D2 F2 G2 B2 RC
            go_wp2_with fail
            go_roundg g1
            case rel => exact ⟨j + 1, wl, by go_num, by omega, by omega, hle, ⟨fun h => by omega⟩, ⟨by rw [hnext.out]; exact S7.out⟩⟩
            case measure => omega
    · have hj2 : j = l.length := by omega
      obtain ⟨F, G, ha, hr, hd, hF, hG, hb⟩ := HS.out
      have A1 := Aside0.mk ha
      have R1 := Aside0.mk hr
      have D1 := Aside0.mk hd
      have F1 := Aside0.mk hF
      have G1 := Aside0.mk hG
      have B1 := Aside0.mk hb
      clear ha hr hd hF hG hb HS
      go_wp2_with fail
      refine (waiting_calls wr _ _ _ wl A1.out (by omega)).mono ?_
      rintro e w5 ⟨v5, rfl, hr5, hu5⟩
      obtain ⟨A5, c5, rfl⟩ := Kd.R_slice hr5
      have hr2 := R_upd0 R1.out hu5
      obtain ⟨Aw, cw, rfl⟩ := Kd.R_slice hr2
      have C5 := Aside0.mk (Kd.R_reads' hr5).2.2
      have C2 := Aside0.mk (Kd.R_reads' hr2).2.2
      have B5 := Aside0.mk (B1.out.upd B1.out.size hu5 (fun _ h => h.elim))
      have he : Aside0 (eqB wl wl = true) := ⟨by simp [eqB]⟩
      clear hr5 hu5 hr2 A1 R1 D1 F1 G1 B1
      go_wp2_with fail
      refine (SameR.same_calls A5 c5 wl Aw cw wl w5 C5.out C2.out).mono ?_
      rw [he.out]
      rintro e w6 ⟨rfl, hq⟩
      have B6 := Aside0.mk (B5.out.upd B5.out.size (Upd.of_q hq) (fun _ h => h.elim))
      clear hq
      go_wp2_with fail
      go_ret
      exact ⟨rfl, B6.out⟩
end Go.Proofs.Ytfmbpiimadljkaa.EvDowns
