import Derived.Test.YtdmhlfjocajinaaBdRSame
import Derived.RegionTactic
set_option linter.unusedVariables false
set_option linter.unusedSimpArgs false
namespace Go.Proofs.Ytdmhlfjocajinaa.BdSame
attribute [local go_sem ↓] Go.wp_at_zero Go.wp_at_succ
open Go.RowKit Go.Proofs.YtdmhlfjocajinaaW.PrintWords Go.Proofs.Ytdmhlfjocajinaa.Own Go.Proofs.Ytdmhlfjocajinaa.Own2 Go.Proofs.Ytdmhlfjocajinaa.Own3 Go.Proofs.Ytdmhlfjocajinaa.Board Go.Proofs.Ytdmhlfjocajinaa.BdSp Go.Proofs.Ytdmhlfjocajinaa.BdRef Go.Proofs.Ytdmhlfjocajinaa.BdOp Go.Proofs.Ytdmhlfjocajinaa.BdMade Go.Proofs.Ytdmhlfjocajinaa.BdRSame

set_option maxRecDepth 20000 in
set_option maxHeartbeats 4000000 in
theorem walk (w8 : Int) (A0 : Option Addr) (c0 : Nat) (l : List (Int × Int × List Int)) (A1 : Option Addr) (c1 : Nat) (l1 : List (Int × Int × List Int)) (w : World) (hw8 : (Lit.int .u8 w8).wf = true) (hr : ak.C w A0 l.length l) (hc : l.length ≤ c0) (hp : ∀ y ∈ l, (Lit.int .u8 y.1).wf = true ∧ (Lit.int .i64 y.2.1).wf = true ∧ ∀ z ∈ y.2.2, (Lit.int .u32 z).wf = true) (hr1 : ak.C w A1 l1.length l1) (hc1 : l1.length ≤ c1) (hp1 : ∀ y ∈ l1, (Lit.int .u8 y.1).wf = true ∧ (Lit.int .i64 y.2.1).wf = true ∧ ∀ z ∈ y.2.2, (Lit.int .u32 z).wf = true) :
    Calls Try.prog 7 #[.int .u8 w8, .slice A0 l.length c0, .slice A1 l1.length c1] w fun e w' => e = .returned (.bool true) ∧ Below w.heap.size w w' := by
  obtain ⟨hw0, hw1⟩ : 0 ≤ w8 ∧ w8 ≤ 255 := by
    simp [Lit.wf, IntKind.min, IntKind.max, IntKind.signed, IntKind.bits] at hw8
    omega
  clear hw8
  have HR := Aside0.mk hr
  have HWF := Aside0.mk (fun y hy => (hp y hy).1)
  have HR1 := Aside0.mk hr1
  have HWF1 := Aside0.mk (fun y hy => (hp1 y hy).1)
  clear hr hp hr1 hp1
  by_cases hl : l.length ≤ 40 ∧ l1.length ≤ 40
  rotate_left
  · have GREAT : ∀ (b1 b2 : Bool), decide ((l.length : Int) > 40) = b1 → decide ((l1.length : Int) > 40) = b2 → (b1 = false → b2 = true) → Calls Try.prog 7 #[.int .u8 w8, .slice A0 l.length c0, .slice A1 l1.length c1] w fun e w' => e = .returned (.bool true) ∧ Below w.heap.size w w' := by
      intro b1 b2 e1 e2 e3
      have e1' : decide (40 < (l.length : Int)) = b1 := e1
      have e2' : decide (40 < (l1.length : Int)) = b2 := e2
      cases b1
      · have e4 := e3 rfl
        subst e4
        go_enter Try.func7, Try.ntmps7
        go_wp2_with fail
        refine (speaks_calls w).mono ?_
        rintro e w1 ⟨rfl, hu1⟩
        have U1 := Aside0.mk hu1
        clear hu1
        go_wp2_with fail
        refine (speaks_calls w1).mono ?_
        rintro e w2 ⟨rfl, hu2⟩
        have U2 := Aside0.mk (U1.out.step hu2)
        clear hu2
        go_wp2_with fail
        go_ret
        exact ⟨rfl, U2.out.to_below (Nat.le_refl _) (fun _ h => h.elim)⟩
      · go_enter Try.func7, Try.ntmps7
        go_wp2_with fail
        refine (speaks_calls w).mono ?_
        rintro e w1 ⟨rfl, hu1⟩
        have U1 := Aside0.mk hu1
        clear hu1
        go_wp2_with fail
        refine (speaks_calls w1).mono ?_
        rintro e w2 ⟨rfl, hu2⟩
        have U2 := Aside0.mk (U1.out.step hu2)
        clear hu2
        go_wp2_with fail
        go_ret
        exact ⟨rfl, U2.out.to_below (Nat.le_refl _) (fun _ h => h.elim)⟩
    exact GREAT _ _ rfl rfl (fun h => by rw [decide_eq_false_iff_not] at h; rw [decide_eq_true_eq]; omega)
  obtain ⟨hl0, hl1⟩ := hl
  have e1 : decide ((l.length : Int) > 40) = false := by rw [decide_eq_false_iff_not]; omega
  have e2 : ¬ (40 : Int) < (l.length : Int) := by omega
  have e3 : decide ((l1.length : Int) > 40) = false := by rw [decide_eq_false_iff_not]; omega
  have e4 : ¬ (40 : Int) < (l1.length : Int) := by omega
  obtain ⟨n, hn, hn1, hn2⟩ : ∃ n : Nat, 1 + w8 % 32 = (n : Int) ∧ 1 ≤ n ∧ n ≤ 32 := ⟨(1 + w8 % 32).toNat, by omega, by omega, by omega⟩
  have HN := Aside0.mk hn
  clear hn
  go_enter Try.func7, Try.ntmps7
  go_wp2_with fail
  refine (speaks_calls w).mono ?_
  rintro e w1 ⟨rfl, hu1⟩
  have U1 := Aside0.mk hu1
  have hz1 := hu1.size
  clear hu1
  go_wp2_with fail
  rw [HN.out]
  obtain ⟨W2, hW2⟩ : ∃ W2, W2 = w1.alloc (.cells #[.int .i64 n] 3) := ⟨_, rfl⟩
  rw [← hW2]
  have HB2 : Aside0 (Below w.heap.size w W2) := ⟨by rw [hW2]; exact (U1.out.alloc _).to_below (Nat.le_refl _) (fun _ h => h.elim)⟩
  have HGC : Aside0 (W2.cell? ⟨w1.heap.size, 0, none⟩ = some (.int .i64 n)) := ⟨by rw [hW2]; exact blk_cell (heap_alloc_new w1 _) 0⟩
  obtain ⟨g, hg⟩ : ∃ g, g = w1.heap.size := ⟨_, rfl⟩
  rw [← hg] at HGC ⊢
  clear hW2 hg U1 hz1
  refine (BdMade.walk W2 n g A0 c0 l hn1 hn2 HGC.out hl0 (Kd.C_below HR.out HB2.out) HWF.out).mono ?_
  rintro e w3 ⟨b, sh, m, q, Am, cm, Al, cl, rfl, ha, hM, hmc, hQ, hqc, hml, hql, hB⟩
  have HA := Aside0.mk ha
  have HM := Aside0.mk hM
  have HQ := Aside0.mk hQ
  have HB := Aside0.mk hB
  clear ha hM hQ hB
  go_wp2_with fail
  obtain ⟨W4, hW4⟩ : ∃ W4, W4 = w3.alloc (.cells #[.int .i64 n, .slice Am m.length cm, .bool sh, .slice Al q.length cl] 50) := ⟨_, rfl⟩
  rw [← hW4]
  have hu4 : Upd w3 W4 (fun _ => False) := by rw [hW4]; exact (Upd.refl _ _).alloc _
  have HD4 : Aside0 (W4.heap[w3.heap.size]? = some (.cells #[.int .i64 n, .slice Am m.length cm, .bool sh, .slice Al q.length cl] 50 (0, 0))) := ⟨by rw [hW4]; exact heap_alloc_new _ _⟩
  have HA4 := Aside0.mk (HA.out.upd0 hu4)
  have HM4 := Aside0.mk (Kd.C_below HM.out (hu4.to_below (Nat.le_refl _) (fun _ h => h.elim)))
  have HQ4 := Aside0.mk (Kd.C_below HQ.out (hu4.to_below (Nat.le_refl _) (fun _ h => h.elim)))
  have HB24 : Aside0 (Below W2.heap.size W2 W4) := ⟨HB.out.upd (below_size HB.out) hu4 (fun _ h => h.elim)⟩
  have HB4 : Aside0 (Below w.heap.size w W4) := ⟨HB2.out.trans (HB24.out.mono (below_size HB2.out))⟩
  obtain ⟨d, hd⟩ : ∃ d, d = w3.heap.size := ⟨_, rfl⟩
  have HA4' : Aside0 (At W4 (fun k => k < d) b n sh m q) := ⟨by rw [hd]; exact HA4.out.mono (fun k hk => hk.2)⟩
  rw [← hd] at HD4 ⊢
  clear hd hW4 hu4 HA HM HQ HB HA4
  refine (BdMade.walk W4 n g A1 c1 l1 hn1 hn2 (pw_cell_below HB24.out HGC.out) hl1 (Kd.C_below HR1.out HB4.out) HWF1.out).mono ?_
  rintro e w5 ⟨b', sh', m', q', Am', cm', Al', cl', rfl, ha, hM, hmc', hQ, hqc', hml', hql', hB⟩
  have HA5 := Aside0.mk ha
  have HM5 := Aside0.mk hM
  have HQ5 := Aside0.mk hQ
  have HB5 := Aside0.mk hB
  clear ha hM hQ hB
  go_wp2_with fail
  obtain ⟨W6, hW6⟩ : ∃ W6, W6 = w5.alloc (.cells #[.int .i64 n, .slice Am' m'.length cm', .bool sh', .slice Al' q'.length cl'] 50) := ⟨_, rfl⟩
  rw [← hW6]
  have hu6 : Upd w5 W6 (fun _ => False) := by rw [hW6]; exact (Upd.refl _ _).alloc _
  have hb6 : W6.heap[w5.heap.size]? = some (.cells #[.int .i64 n, .slice Am' m'.length cm', .bool sh', .slice Al' q'.length cl'] 50 (0, 0)) := by rw [hW6]; exact heap_alloc_new _ _
  have hu46 : Upd W4 W6 (fun _ => False) := (Upd.of_below HB5.out (fun _ => False)).step hu6
  have hbel := hu46.to_below (Nat.le_refl _) (fun _ h => h.elim)
  have hbel6 := hu6.to_below (Nat.le_refl _) (fun _ h => h.elim)
  have hd4 := (hu46.block (blk_lt HD4.out) (fun h => h)).trans HD4.out
  have HX := Aside0.mk (HA4'.out.upd0 hu46)
  have HY := Aside0.mk (HA5.out.upd0 hu6)
  have HXM := Aside0.mk (Kd.C_below HM4.out hbel)
  have HXQ := Aside0.mk (Kd.C_below HQ4.out hbel)
  have HYM := Aside0.mk (Kd.C_below HM5.out hbel6)
  have HYQ := Aside0.mk (Kd.C_below HQ5.out hbel6)
  have HB6 : Aside0 (Below w.heap.size w W6) := ⟨HB4.out.upd (below_size HB4.out) hu46 (fun _ h => h.elim)⟩
  obtain ⟨d', hd'⟩ : ∃ d', d' = w5.heap.size := ⟨_, rfl⟩
  rw [← hd'] at hb6 ⊢
  have c0 : W6.cell? ⟨d, 0, none⟩ = some (.int .i64 n) := blk_cell hd4 0
  have c1 : W6.cell? ⟨d, 1, none⟩ = some (.slice Am m.length cm) := blk_cell hd4 1
  have c2 : W6.cell? ⟨d, 2, none⟩ = some (.bool sh) := blk_cell hd4 2
  have c3 : W6.cell? ⟨d, 3, none⟩ = some (.slice Al q.length cl) := blk_cell hd4 3
  have c4 : W6.cell? ⟨d', 0, none⟩ = some (.int .i64 n) := blk_cell hb6 0
  have c5 : W6.cell? ⟨d', 1, none⟩ = some (.slice Am' m'.length cm') := blk_cell hb6 1
  have c6 : W6.cell? ⟨d', 2, none⟩ = some (.bool sh') := blk_cell hb6 2
  have c7 : W6.cell? ⟨d', 3, none⟩ = some (.slice Al' q'.length cl') := blk_cell hb6 3
  obtain ⟨y, hy⟩ : ∃ y, y = sameB n n sh sh' m m' q q' := ⟨_, rfl⟩
  have HE := Aside0.mk hy.symm
  have HE' : Aside0 (sameB n n sh' sh m' m q' q = y) := ⟨by rw [hy]; exact sameB_symm ..⟩
  have hml1 : m.length ≤ 1000 := by omega
  have hql1 : q.length ≤ 1000 := by omega
  have hyy : (y == y) = true := by simp
  have HUC : Aside0 (Upd W6 W6.drew (fun _ => False)) := ⟨(Upd.refl _ _).drew⟩
  clear hd' hW6 hu6 hb6 hu46 hbel hbel6 hd4 HA4' HA5 HM5 HQ5 HB5 HM4 HQ4 HB24 HD4 HB4 HB2 HGC hy
  go_region_held3 (fun w' => w'.cell? ⟨d, 0, none⟩ = some (.int .i64 n) ∧ w'.cell? ⟨d, 1, none⟩ = some (.slice Am m.length cm) ∧ w'.cell? ⟨d, 2, none⟩ = some (.bool sh) ∧ w'.cell? ⟨d, 3, none⟩ = some (.slice Al q.length cl) ∧ w'.cell? ⟨d', 0, none⟩ = some (.int .i64 n) ∧ w'.cell? ⟨d', 1, none⟩ = some (.slice Am' m'.length cm') ∧ w'.cell? ⟨d', 2, none⟩ = some (.bool sh') ∧ w'.cell? ⟨d', 3, none⟩ = some (.slice Al' q'.length cl')) (first | exact ⟨k0, k1, k2, k3, k4, k5, k6, k7⟩ | exact ⟨c0, c1, c2, c3, c4, c5, c6, c7⟩ | go_keep)
    (first
      | (go_at_call 27; with_reducible refine (same_calls _ _ _ b b' n n sh sh' m m' q q' (HX.out.upd0 HUC.out) (HY.out.upd0 HUC.out)).mono ?_; rw [HE.out]; rintro e w7 ⟨rfl, hq⟩; have hu := Upd.of_q hq; have HUN := Aside0.mk (HUC.out.step hu); clear HUC; have HUC := HUN; clear HUN; have k0 := cell_upd0 HUC.out c0; have k1 := cell_upd0 HUC.out c1; have k2 := cell_upd0 HUC.out c2; have k3 := cell_upd0 HUC.out c3; have k4 := cell_upd0 HUC.out c4; have k5 := cell_upd0 HUC.out c5; have k6 := cell_upd0 HUC.out c6; have k7 := cell_upd0 HUC.out c7; clear hq hu)
      | (go_at_call 27; with_reducible refine (same_calls _ _ _ b' b n n sh' sh m' m q' q (HY.out.upd0 HUC.out) (HX.out.upd0 HUC.out)).mono ?_; rw [HE'.out]; rintro e w7 ⟨rfl, hq⟩; have hu := Upd.of_q hq; have HUN := Aside0.mk (HUC.out.step hu); clear HUC; have HUC := HUN; clear HUN; have k0 := cell_upd0 HUC.out c0; have k1 := cell_upd0 HUC.out c1; have k2 := cell_upd0 HUC.out c2; have k3 := cell_upd0 HUC.out c3; have k4 := cell_upd0 HUC.out c4; have k5 := cell_upd0 HUC.out c5; have k6 := cell_upd0 HUC.out c6; have k7 := cell_upd0 HUC.out c7; clear hq hu)
      | (go_at_call 27; with_reducible refine (same_calls _ _ _ b b n n sh sh m m q q (HX.out.upd0 HUC.out) (HX.out.upd0 HUC.out)).mono ?_; rw [sameB_self]; rintro e w7 ⟨rfl, hq⟩; have hu := Upd.of_q hq; have HUN := Aside0.mk (HUC.out.step hu); clear HUC; have HUC := HUN; clear HUN; have k0 := cell_upd0 HUC.out c0; have k1 := cell_upd0 HUC.out c1; have k2 := cell_upd0 HUC.out c2; have k3 := cell_upd0 HUC.out c3; have k4 := cell_upd0 HUC.out c4; have k5 := cell_upd0 HUC.out c5; have k6 := cell_upd0 HUC.out c6; have k7 := cell_upd0 HUC.out c7; clear hq hu)
      | (go_at_call 28; with_reducible refine (rsame_calls _ n Am cm m sh Al cl q n Am' cm' m' sh' Al' cl' q' (Kd.C_below HXM.out (HUC.out.to_below (Nat.le_refl _) (fun _ h => h.elim))) hmc (Kd.C_below HXQ.out (HUC.out.to_below (Nat.le_refl _) (fun _ h => h.elim))) hqc (Kd.C_below HYM.out (HUC.out.to_below (Nat.le_refl _) (fun _ h => h.elim))) hmc' (Kd.C_below HYQ.out (HUC.out.to_below (Nat.le_refl _) (fun _ h => h.elim))) hqc' hml1 hql1).mono ?_; rw [HE.out]; rintro e w7 ⟨rfl, hq⟩; have hu := Upd.of_below hq (fun _ => False); have HUN := Aside0.mk (HUC.out.step hu); clear HUC; have HUC := HUN; clear HUN; have k0 := cell_upd0 HUC.out c0; have k1 := cell_upd0 HUC.out c1; have k2 := cell_upd0 HUC.out c2; have k3 := cell_upd0 HUC.out c3; have k4 := cell_upd0 HUC.out c4; have k5 := cell_upd0 HUC.out c5; have k6 := cell_upd0 HUC.out c6; have k7 := cell_upd0 HUC.out c7; clear hq hu))
  all_goals
    go_wp2_with fail
    go_ret
    exact ⟨rfl, HB6.out.upd (below_size HB6.out) HUC.out (fun _ h => h.elim)⟩
end Go.Proofs.Ytdmhlfjocajinaa.BdSame
