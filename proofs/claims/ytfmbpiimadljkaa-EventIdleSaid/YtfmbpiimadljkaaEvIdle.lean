import Derived.Test.YtfmbpiimadljkaaEvTwo
import Derived.Deep.RegionWith
set_option linter.unusedVariables false
set_option linter.unusedSimpArgs false
namespace Go.Proofs.Ytfmbpiimadljkaa.EvIdle
attribute [local go_sem ↓] Go.wp_at_zero Go.wp_at_succ
open Go.RowKit Go.Proofs.YtfmbpiimadljkaaW.PrintWords Go.Proofs.Ytfmbpiimadljkaa.Own Go.Proofs.Ytfmbpiimadljkaa.Ev Go.Proofs.Ytfmbpiimadljkaa.SlI Go.Proofs.Ytfmbpiimadljkaa.EvDrop Go.Proofs.Ytfmbpiimadljkaa.EvRef Go.Proofs.Ytfmbpiimadljkaa.EvCl Go.Proofs.Ytfmbpiimadljkaa.EvDo Go.Proofs.Ytfmbpiimadljkaa.EvTwo

theorem without_hasB {l : List Int} {id : Int} (h : hasB l id = false) : without l id = l := by
  unfold without
  rw [List.filter_eq_self]
  intro a ha
  rw [bne_iff_ne]
  rintro rfl
  unfold hasB at h
  rw [← Bool.not_eq_true, List.contains_iff_mem] at h
  exact h ha

set_option maxRecDepth 20000 in
set_option maxHeartbeats 8000000 in
theorem walk (A0 : Option Addr) (c0 : Nat) (ops : List (Int × Int)) (id0 : Int) (w : World) (hr : (Kd.pair ints ints).C w A0 ops.length ops) (hc : ops.length ≤ c0) (_ : ∀ y ∈ ops, (Lit.int .i64 y.1).wf = true ∧ (Lit.int .i64 y.2).wf = true) (_ : (Lit.int .i64 id0).wf = true) :
    Calls Try.prog 8 #[.slice A0 ops.length c0, .int .i64 id0] w fun e w' => e = .returned (.bool true) ∧ Below w.heap.size w w' := by
  have HR := Aside0.mk hr
  have hm := Kd.C_max hr
  clear hr
  have hu34 := Try.underlying34
  have hu38 := Try.underlying38
  go_enter Try.func8, Try.ntmps8
  go_wp2_with fail
  refine (new_calls w).mono ?_
  rintro e w1 ⟨rfl, ha1, hu1⟩
  have A1 := Aside0.mk ha1
  have U1 := Aside0.mk hu1
  clear ha1 hu1
  go_wp2_with fail
  refine (told_calls w1).mono ?_
  rintro e w2 ⟨rfl, hu2⟩
  have A2 := Aside0.mk (A1.out.bound.upd0 hu2)
  have U2 := Aside0.mk (U1.out.step hu2)
  have hz12 := hu2.size
  have hzw := U1.out.size
  have hb1 := A1.out.lt
  clear A1 U1 hu2
  go_wp2_with fail
  have hS : LS w (w2.alloc (.cells #[.bool false, .slice none 0 0] 34)) w.heap.size w2.heap.size false [] :=
    ⟨none, 0, _, fun _ => False, ⟨⟨A2.out.alloc _, Kd.R_nil _ _ _ _ _, fun _ _ h => h⟩, heap_alloc_new w2 _, fun h => by omega, fun h => h⟩, fun k hk => hk.1, fun _ h => h.elim, by omega, (U2.out.alloc _).to_below (Nat.le_refl _) (fun _ h => h.elim)⟩
  have HS := Aside0.mk hS
  clear hS
  go_loopg [7] ops.length (fun g i wr => ∃ (j : Nat) (up : Bool) (l : List Int), i = .int .i64 j ∧ j ≤ ops.length ∧ j ≤ 60 ∧ ops.length - j ≤ g ∧ l.length ≤ j ∧ Aside0 (LS w wr w.heap.size w2.heap.size up l))
  case atStart => exact ⟨0, false, [], rfl, Nat.zero_le _, Nat.zero_le _, by omega, by simp, HS⟩
  case round =>
  clear HS
  obtain ⟨j, up, l, rfl, hj, hj60, hg, hl, HS⟩ := hrel
  by_cases hlt : j < ops.length ∧ j < 60
  · obtain ⟨hlt, hlt2⟩ := hlt
    cases gk with
    | zero => omega
    | succ g1 =>
    have b0 : (0 : Int) ≤ (j : Int) := by omega
    have b1 : (j : Int) < (ops.length : Int) := by omega
    have b2 : (j : Int) < 60 := by omega
    have e1 : decide ((j : Int) < (ops.length : Int)) = true := by rw [decide_eq_true_eq]; omega
    have e2 : decide ((j : Int) < 60) = true := by rw [decide_eq_true_eq]; omega
    go_upto_region 8 with fail
    obtain ⟨ad, rfl, hc0, hc1⟩ := ints2_at HR.out j hlt
    obtain ⟨A, c, F, G, h2, hF, hG, hwp, hbw⟩ := HS.out
    obtain ⟨kd, id, hop⟩ : ∃ kd id, ops[j] = (kd, id) := ⟨_, _, rfl⟩
    rw [hop] at hc0 hc1
    have d0 := pw_cell_below hbw hc0
    have d1 := pw_cell_below hbw hc1
    have p0 : wr.cell? ⟨w2.heap.size, 0, none⟩ = some (.bool up) := blk_cell h2.2.1 0
    have p1 : wr.cell? ⟨w2.heap.size, 1, none⟩ = some (.slice A l.length c) := blk_cell h2.2.1 1
    obtain ⟨up2, l2, hl2, hdo⟩ := LF.do kd id up l (by omega)
    have HDO : Aside0 (∀ X, Upd wr X (fun _ => False) → Calls Try.prog 20 #[.pointer (some ⟨w.heap.size, 0, none⟩), .agg #[.bool up, .slice A l.length c], .agg #[.int .i64 kd, .int .i64 id]] X (fun e w4 => ∃ A2 c2, e = .returned (.tuple #[.agg #[.bool up2, .slice A2 l2.length c2], .bool true]) ∧ w4.frozen? ⟨w2.heap.size, 0, none⟩ = false ∧ w4.frozen? ⟨w2.heap.size, 1, none⟩ = false ∧ (∃ v, w4.cell? ⟨w2.heap.size, 0, none⟩ = some (.bool v)) ∧ (∃ A' n' c', w4.cell? ⟨w2.heap.size, 1, none⟩ = some (.slice A' n' c')) ∧
        LS w ((w4.setCell ⟨w2.heap.size, 0, none⟩ (.bool up2)).setCell ⟨w2.heap.size, 1, none⟩ (.slice A2 l2.length c2)) w.heap.size w2.heap.size up2 l2)) := ⟨by
      intro X hX
      refine (hdo wr _ _ A c F G h2 X hX).mono ?_
      rintro e w4 ⟨A2, c2, rfl, hp4, F2, G2, h4, hF2, hG2, hu4⟩
      refine ⟨A2, c2, rfl, blk_frozen hp4 0, blk_frozen hp4 1, ⟨_, blk_cell hp4 0⟩, ⟨_, _, _, blk_cell hp4 1⟩, A2, c2, F2, G2, h4, fun k hk => ?_, fun k hk => ?_, hwp, hbw.upd hbw.size hu4 (fun k hk => hk.elim (fun h => hF k h) (fun h => by rw [h]; exact hwp))⟩
      · have := hbw.size
        exact (hF2 k hk).elim (hF k) (fun h => by omega)
      · have := hbw.size
        exact (hG2 k hk).elim (hG k) (fun h => by omega)⟩
    clear h2 hF hG hbw hop hc0 hc1 HS hdo
    first | go_region_with (first
      | (go_at_call 20; refine (HDO.out _ (Upd.refl _ _).drew).mono ?_; rintro e w4 ⟨A2, c2, rfl, f0, f1, ⟨y0, k0⟩, ⟨y1, y2, y3, k1⟩, hs⟩; have S4 := Aside0.mk hs; clear hs)) | fail
    all_goals
      try simp only [Act.put, List.setIfInBounds_toArray, List.set_cons_zero, List.set_cons_succ]
      clear p0 p1 d0 d1 HDO
      go_wp2_with fail
      go_roundg g1
      case rel => exact ⟨j + 1, up2, l2, by go_num, by omega, by omega, by omega, by omega, S4⟩
      case measure => omega
  · go_upto_region 6 with fail
    go_cut [27] (fun s wc => s = .bool false ∧ wc = wr)
    case first =>
      by_cases hlt1 : j < ops.length
      · have e1 : decide ((j : Int) < (ops.length : Int)) = true := by rw [decide_eq_true_eq]; omega
        have e2 : decide ((j : Int) < 60) = false := by rw [decide_eq_false_iff_not]; omega
        have e3 : (60 : Int) ≤ (j : Int) := by omega
        have e4 : (j : Int) < (ops.length : Int) := by omega
        go_wp2_with fail
        go_meet
        exact ⟨rfl, rfl⟩
      · have e1 : decide ((j : Int) < (ops.length : Int)) = false := by rw [decide_eq_false_iff_not]; omega
        have e3 : (ops.length : Int) ≤ (j : Int) := by omega
        go_wp2_with fail
        go_meet
        exact ⟨rfl, rfl⟩
    case rest =>
      obtain ⟨rfl, rfl⟩ := hcut
      clear hg hlt
      obtain ⟨A, c, F, G, h2, hF, hG, hwp, hbw⟩ := HS.out
      clear HS
      obtain ⟨⟨ha, hr, _⟩, hp, _, _⟩ := h2
      have p1 : wc.cell? ⟨w2.heap.size, 1, none⟩ = some (.slice A l.length c) := blk_cell hp 1
      have AE := Aside0.mk ha
      have RC := Aside0.mk (Kd.R_reads' hr).2.2
      have BE := Aside0.mk hbw
      clear ha hr hp hF hG hbw
      go_wp2_with fail
      refine (HasR.has_calls A c l id0 wc RC.out).mono ?_
      cases hh : hasB l id0
      · rintro e w' ⟨rfl, rfl⟩
        go_wp2_with fail
        refine (clone_calls wc _ _ _ _ AE.out (by omega)).mono ?_
        rintro e w5 ⟨bc, rfl, hbc, hac, huc⟩
        have AC := Aside0.mk hac.bound
        have AE5 := Aside0.mk (AE.out.bound.upd0 huc)
        have BE5 := Aside0.mk (BE.out.upd BE.out.size huc (fun _ h => h.elim))
        have hne : ¬ bc = w.heap.size := by
          have := AE.out.lt
          omega
        have hz00 := BE.out.size
        clear hac huc AE BE RC p1
        go_wp2_with fail
        refine (drop_calls w5 _ _ _ l id0 AC.out).mono ?_
        rw [without_hasB hh, hh]
        rintro e w6 ⟨rfl, ha6, hu6⟩
        have AC6 := Aside0.mk ha6
        have AE6 := Aside0.mk (AE5.out.upd' hu6 (fun k hk _ h => by omega))
        have BE6 := Aside0.mk (BE5.out.upd BE5.out.size hu6 (fun k hk => by omega))
        clear ha6 hu6 AC AE5 BE5
        go_wp2_with fail
        refine (same_calls w6 _ _ _ _ _ _ _ _ AC6.out AE6.out).mono ?_
        rw [show sameB up l up l = true by simp [sameB, eqB]]
        rintro e w7 ⟨rfl, hq⟩
        have hu7 := Upd.of_q hq
        have AW := Aside0.mk (AE6.out.upd0 hu7)
        have BW := Aside0.mk (BE6.out.upd BE6.out.size hu7 (fun _ h => h.elim))
        clear hq hu7 AC6 AE6 BE6 hh
        go_wp2_with fail
        refine (clone_calls w7 _ _ _ _ AW.out (by omega)).mono ?_
        rintro e wa ⟨ba, rfl, hba, ha1, hu1⟩
        have AA := Aside0.mk ha1.bound
        have AW1 := Aside0.mk (AW.out.upd0 hu1)
        have B1 := Aside0.mk (BW.out.upd BW.out.size hu1 (fun _ h => h.elim))
        have hz0 := BW.out.size
        have hba' : ba < wa.heap.size := ha1.lt
        clear ha1 hu1 AW BW
        go_wp2_with fail
        refine (clone_calls wa _ _ _ _ AW1.out (by omega)).mono ?_
        rintro e wb ⟨bb, rfl, hbb, ha2, hu2⟩
        have AB := Aside0.mk ha2.bound
        have AA2 := Aside0.mk (AA.out.upd0 hu2)
        have B2 := Aside0.mk (B1.out.upd B1.out.size hu2 (fun _ h => h.elim))
        have hbb' : bb < wb.heap.size := ha2.lt
        clear ha2 hu2 AA AW1 B1
        go_wp2_with fail
        refine (set_calls wb _ _ _ _ AA2.out).mono ?_
        rintro e ws ⟨vs, rfl, _, ha3, hu3⟩
        have hz3 := hu3.size
        have AA3 := Aside0.mk ha3
        have AB3 := Aside0.mk (AB.out.upd' hu3 (fun k hk _ h => by omega))
        have B3 := Aside0.mk (B2.out.upd B2.out.size hu3 (fun k hk => by omega))
        clear ha3 hu3 AA2 AB B2
        go_wp2_with fail
        refine (clone_calls ws _ _ _ _ AA3.out (by simp)).mono ?_
        rintro e wx ⟨bx, rfl, hbx, ha4, hu4⟩
        have hbx' : bx < wx.heap.size := ha4.lt
        have AX := Aside0.mk ha4.bound
        have AA4 := Aside0.mk (AA3.out.upd0 hu4)
        have AB4 := Aside0.mk (AB3.out.upd0 hu4)
        have B4 := Aside0.mk (B3.out.upd B3.out.size hu4 (fun _ h => h.elim))
        clear ha4 hu4 AA3 AB3 B3
        go_wp2_with fail
        refine (reset_calls wx _ _ _ _ AB4.out).mono ?_
        rintro e wy ⟨rfl, ha5, hu5⟩
        have hz5 := hu5.size
        have AB5 := Aside0.mk ha5
        have AA5 := Aside0.mk (AA4.out.upd' hu5 (fun k hk _ h => by omega))
        have AX5 := Aside0.mk (AX.out.upd' hu5 (fun k hk _ h => by omega))
        have B5 := Aside0.mk (B4.out.upd B4.out.size hu5 (fun k hk => by omega))
        clear ha5 hu5 AA4 AX AB4 B4
        go_wp2_with fail
        refine (clone_calls wy _ _ _ _ AB5.out (by omega)).mono ?_
        rintro e wz ⟨bz, rfl, hbz, ha6, hu6⟩
        have hbz' : bz < wz.heap.size := ha6.lt
        have AZ := Aside0.mk ha6.bound
        have AA6 := Aside0.mk (AA5.out.upd0 hu6)
        have AB6 := Aside0.mk (AB5.out.upd0 hu6)
        have AX6 := Aside0.mk (AX5.out.upd0 hu6)
        have B6 := Aside0.mk (B5.out.upd B5.out.size hu6 (fun _ h => h.elim))
        clear ha6 hu6 AA5 AB5 AX5 B5
        go_wp2_with fail
        refine (reset_calls wz _ _ _ _ AB6.out).mono ?_
        rintro e wu ⟨rfl, ha7, hu7⟩
        have hz7 := hu7.size
        have AB7 := Aside0.mk ha7
        have AA7 := Aside0.mk (AA6.out.upd' hu7 (fun k hk _ h => by omega))
        have AX7 := Aside0.mk (AX6.out.upd' hu7 (fun k hk _ h => by omega))
        have AZ7 := Aside0.mk (AZ.out.upd' hu7 (fun k hk _ h => by omega))
        have B7 := Aside0.mk (B6.out.upd B6.out.size hu7 (fun k hk => by omega))
        clear ha7 hu7 AA6 AX6 AB6 AZ B6
        go_wp2_with fail
        refine (set_calls wu _ _ _ _ AA7.out).mono ?_
        rintro e wv ⟨vv, rfl, hr8, ha8, hu8⟩
        obtain ⟨A8, c8, rfl⟩ := Kd.R_slice hr8
        have AA8 := Aside0.mk ha8
        have AB8 := Aside0.mk (AB7.out.upd' hu8 (fun k hk _ h => by omega))
        have AX8 := Aside0.mk (AX7.out.upd' hu8 (fun k hk _ h => by omega))
        have AZ8 := Aside0.mk (AZ7.out.upd' hu8 (fun k hk _ h => by omega))
        have B8 := Aside0.mk (B7.out.upd B7.out.size hu8 (fun k hk => by omega))
        clear ha8 hu8 hr8 AA7 AX7 AB7 AZ7 B7
        go_wp2_with fail
        refine (same_calls wv _ _ _ _ _ _ _ _ AA8.out AX8.out).mono ?_
        rw [show sameB true [] true [] = true by simp [sameB, eqB]]
        rintro e wq ⟨rfl, hq⟩
        have hu9 := Upd.of_q hq
        have AB9 := Aside0.mk (AB8.out.upd0 hu9)
        have AZ9 := Aside0.mk (AZ8.out.upd0 hu9)
        have B9 := Aside0.mk (B8.out.upd B8.out.size hu9 (fun _ h => h.elim))
        clear hq hu9 AA8 AX8 AB8 AZ8 B8
        go_wp2_with fail
        refine (same_calls wq _ _ _ _ _ _ _ _ AB9.out AZ9.out).mono ?_
        rw [show sameB false l false l = true by simp [sameB, eqB]]
        rintro e wr9 ⟨rfl, hq⟩
        have BB := Aside0.mk (B9.out.upd B9.out.size (Upd.of_q hq) (fun _ h => h.elim))
        clear hq AB9 AZ9 B9
        go_wp2_with fail
        go_ret
        exact ⟨rfl, BB.out⟩
      · rintro e w' ⟨rfl, rfl⟩
        have AW := AE
        have BW := BE
        clear AE BE RC p1 hh
        go_wp2_with fail
        refine (clone_calls wc _ _ _ _ AW.out (by omega)).mono ?_
        rintro e wa ⟨ba, rfl, hba, ha1, hu1⟩
        have AA := Aside0.mk ha1.bound
        have AW1 := Aside0.mk (AW.out.upd0 hu1)
        have B1 := Aside0.mk (BW.out.upd BW.out.size hu1 (fun _ h => h.elim))
        have hz0 := BW.out.size
        have hba' : ba < wa.heap.size := ha1.lt
        clear ha1 hu1 AW BW
        go_wp2_with fail
        refine (clone_calls wa _ _ _ _ AW1.out (by omega)).mono ?_
        rintro e wb ⟨bb, rfl, hbb, ha2, hu2⟩
        have AB := Aside0.mk ha2.bound
        have AA2 := Aside0.mk (AA.out.upd0 hu2)
        have B2 := Aside0.mk (B1.out.upd B1.out.size hu2 (fun _ h => h.elim))
        have hbb' : bb < wb.heap.size := ha2.lt
        clear ha2 hu2 AA AW1 B1
        go_wp2_with fail
        refine (set_calls wb _ _ _ _ AA2.out).mono ?_
        rintro e ws ⟨vs, rfl, _, ha3, hu3⟩
        have hz3 := hu3.size
        have AA3 := Aside0.mk ha3
        have AB3 := Aside0.mk (AB.out.upd' hu3 (fun k hk _ h => by omega))
        have B3 := Aside0.mk (B2.out.upd B2.out.size hu3 (fun k hk => by omega))
        clear ha3 hu3 AA2 AB B2
        go_wp2_with fail
        refine (clone_calls ws _ _ _ _ AA3.out (by simp)).mono ?_
        rintro e wx ⟨bx, rfl, hbx, ha4, hu4⟩
        have hbx' : bx < wx.heap.size := ha4.lt
        have AX := Aside0.mk ha4.bound
        have AA4 := Aside0.mk (AA3.out.upd0 hu4)
        have AB4 := Aside0.mk (AB3.out.upd0 hu4)
        have B4 := Aside0.mk (B3.out.upd B3.out.size hu4 (fun _ h => h.elim))
        clear ha4 hu4 AA3 AB3 B3
        go_wp2_with fail
        refine (reset_calls wx _ _ _ _ AB4.out).mono ?_
        rintro e wy ⟨rfl, ha5, hu5⟩
        have hz5 := hu5.size
        have AB5 := Aside0.mk ha5
        have AA5 := Aside0.mk (AA4.out.upd' hu5 (fun k hk _ h => by omega))
        have AX5 := Aside0.mk (AX.out.upd' hu5 (fun k hk _ h => by omega))
        have B5 := Aside0.mk (B4.out.upd B4.out.size hu5 (fun k hk => by omega))
        clear ha5 hu5 AA4 AX AB4 B4
        go_wp2_with fail
        refine (clone_calls wy _ _ _ _ AB5.out (by omega)).mono ?_
        rintro e wz ⟨bz, rfl, hbz, ha6, hu6⟩
        have hbz' : bz < wz.heap.size := ha6.lt
        have AZ := Aside0.mk ha6.bound
        have AA6 := Aside0.mk (AA5.out.upd0 hu6)
        have AB6 := Aside0.mk (AB5.out.upd0 hu6)
        have AX6 := Aside0.mk (AX5.out.upd0 hu6)
        have B6 := Aside0.mk (B5.out.upd B5.out.size hu6 (fun _ h => h.elim))
        clear ha6 hu6 AA5 AB5 AX5 B5
        go_wp2_with fail
        refine (reset_calls wz _ _ _ _ AB6.out).mono ?_
        rintro e wu ⟨rfl, ha7, hu7⟩
        have hz7 := hu7.size
        have AB7 := Aside0.mk ha7
        have AA7 := Aside0.mk (AA6.out.upd' hu7 (fun k hk _ h => by omega))
        have AX7 := Aside0.mk (AX6.out.upd' hu7 (fun k hk _ h => by omega))
        have AZ7 := Aside0.mk (AZ.out.upd' hu7 (fun k hk _ h => by omega))
        have B7 := Aside0.mk (B6.out.upd B6.out.size hu7 (fun k hk => by omega))
        clear ha7 hu7 AA6 AX6 AB6 AZ B6
        go_wp2_with fail
        refine (set_calls wu _ _ _ _ AA7.out).mono ?_
        rintro e wv ⟨vv, rfl, hr8, ha8, hu8⟩
        obtain ⟨A8, c8, rfl⟩ := Kd.R_slice hr8
        have AA8 := Aside0.mk ha8
        have AB8 := Aside0.mk (AB7.out.upd' hu8 (fun k hk _ h => by omega))
        have AX8 := Aside0.mk (AX7.out.upd' hu8 (fun k hk _ h => by omega))
        have AZ8 := Aside0.mk (AZ7.out.upd' hu8 (fun k hk _ h => by omega))
        have B8 := Aside0.mk (B7.out.upd B7.out.size hu8 (fun k hk => by omega))
        clear ha8 hu8 hr8 AA7 AX7 AB7 AZ7 B7
        go_wp2_with fail
        refine (same_calls wv _ _ _ _ _ _ _ _ AA8.out AX8.out).mono ?_
        rw [show sameB true [] true [] = true by simp [sameB, eqB]]
        rintro e wq ⟨rfl, hq⟩
        have hu9 := Upd.of_q hq
        have AB9 := Aside0.mk (AB8.out.upd0 hu9)
        have AZ9 := Aside0.mk (AZ8.out.upd0 hu9)
        have B9 := Aside0.mk (B8.out.upd B8.out.size hu9 (fun _ h => h.elim))
        clear hq hu9 AA8 AX8 AB8 AZ8 B8
        go_wp2_with fail
        refine (same_calls wq _ _ _ _ _ _ _ _ AB9.out AZ9.out).mono ?_
        rw [show sameB false l false l = true by simp [sameB, eqB]]
        rintro e wr9 ⟨rfl, hq⟩
        have BB := Aside0.mk (B9.out.upd B9.out.size (Upd.of_q hq) (fun _ h => h.elim))
        clear hq AB9 AZ9 B9
        go_wp2_with fail
        go_ret
        exact ⟨rfl, BB.out⟩
end Go.Proofs.Ytfmbpiimadljkaa.EvIdle
