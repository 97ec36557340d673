import Derived.Test.YtdmhlfjocajinaaBdOp
set_option linter.unusedVariables false
set_option linter.unusedSimpArgs false
namespace Go.Proofs.Ytdmhlfjocajinaa.BdMade
attribute [local go_sem ↓] Go.wp_at_zero Go.wp_at_succ
open Go.RowKit Go.Proofs.YtdmhlfjocajinaaW.PrintWords Go.Proofs.Ytdmhlfjocajinaa.Own Go.Proofs.Ytdmhlfjocajinaa.Own2 Go.Proofs.Ytdmhlfjocajinaa.Own3 Go.Proofs.Ytdmhlfjocajinaa.Board Go.Proofs.Ytdmhlfjocajinaa.BdSp Go.Proofs.Ytdmhlfjocajinaa.BdRef Go.Proofs.Ytdmhlfjocajinaa.BdOp

abbrev bk : Kd Int := Kd.int .u8
abbrev mk : Kd (List Int) := Kd.slice 29 uk
abbrev ak : Kd (Int × Int × List Int) := Kd.pair bk (Kd.pair ik mk)
/-- An act, where it lies. -/
theorem act_at {w : World} {A : Option Addr} {n : Nat} {xs : List (Int × Int × List Int)} (h : ak.C w A n xs) (j : Nat) (hj : j < xs.length) :
    ∃ ad A' c', A = some ad ∧ w.cell? (ad.add (j * 3)) = some (.int .u8 xs[j].1) ∧ w.cell? ⟨(ad.add (j * 3)).block, (ad.add (j * 3)).off + 1, none⟩ = some (.int .i64 xs[j].2.1) ∧ w.cell? ⟨(ad.add (j * 3)).block, (ad.add (j * 3)).off + 2, none⟩ = some (.slice A' xs[j].2.2.length c') ∧ xs[j].2.2.length ≤ c' ∧ uk.C w A' xs[j].2.2.length xs[j].2.2 := by
  obtain ⟨h1, h2, h3⟩ := h
  obtain ⟨ad, he, hc⟩ := h3 (by omega)
  obtain ⟨c, hl, ⟨c0, c1, hcc, h0, ⟨d0, d1, hdd, g0, g1⟩⟩, hcell⟩ := hc j _ (List.getElem?_eq_getElem hj)
  have e0 : c0 = [.int .u8 xs[j].1] := h0
  have e1 : d0 = [.int .i64 xs[j].2.1] := g0
  obtain ⟨A', c', e2, hle, hC⟩ := g1
  subst e0 e1 e2 hdd hcc
  have a0 := hcell 0 _ rfl
  have a1 := hcell 1 _ rfl
  have a2 := hcell 2 _ rfl
  have e3 : ak.sz = 3 := rfl
  rw [e3, add_field ad (j * 3) 1 (by omega)] at a1
  rw [e3, add_field ad (j * 3) 2 (by omega)] at a2
  exact ⟨ad, A', c', he, a0, a1, a2, hle, hC⟩

set_option maxRecDepth 20000 in
set_option maxHeartbeats 4000000 in
theorem walk (w : World) (n : Nat) (g0 : Nat) (A0 : Option Addr) (c0 : Nat) (l : List (Int × Int × List Int)) (h1 : 1 ≤ n) (h2 : n ≤ 32) (hp : w.cell? ⟨g0, 0, none⟩ = some (.int .i64 n)) (hl : l.length ≤ 40) (hr : ak.C w A0 l.length l) (hwf : ∀ y ∈ l, (Lit.int .u8 y.1).wf = true) :
    Calls Try.prog 22 #[.slice A0 l.length c0, .pointer (some ⟨g0, 0, none⟩)] w fun e w' => ∃ b sh m q Am cm Al cl, e = .returned (.tuple #[.pointer (some ⟨b, 0, none⟩), .agg #[.int .i64 n, .slice Am m.length cm, .bool sh, .slice Al q.length cl]]) ∧
      At w' (fun k => w.heap.size ≤ k ∧ k < w'.heap.size) b n sh m q ∧ uk.C w' Am m.length m ∧ m.length ≤ cm ∧ ik.C w' Al q.length q ∧ q.length ≤ cl ∧ m.length ≤ 32 ∧ q.length ≤ 40 ∧ Below w.heap.size w w' := by
  have HR := Aside0.mk hr
  have HWF := Aside0.mk hwf
  have hg0 : g0 < w.heap.size := World.block_lt_of_cell? w _ hp
  have hg1 : ¬ g0 = w.heap.size := by omega
  clear hr hwf
  have hu50 := Try.underlying50
  have hu52 := Try.underlying52
  go_enter Try.func22, Try.ntmps22
  go_wp2_with fail
  generalize hW1 : World.alloc _ _ = W1
  have hz1 : w.heap.size < W1.heap.size := by rw [← hW1]; simp
  have HU1 : Aside0 (Upd w W1 (fun _ => False)) := ⟨by rw [← hW1]; exact (Upd.refl _ _).alloc _⟩
  have HZ : Aside0 (W1.heap[w.heap.size]? = some (.cells #[.int .i64 0, .slice none 0 0, .bool false, .slice none 0 0] 50 (0, 0))) := ⟨by rw [← hW1]; exact heap_alloc_new w _⟩
  have HB01 : Aside0 (Below w.heap.size w W1) := ⟨HU1.out.to_below (Nat.le_refl _) (fun _ h => h.elim)⟩
  clear hW1
  refine (new_calls W1 n h1 h2).mono ?_
  rintro e w2 ⟨rfl, ha2, hu2⟩
  have HA2 : Aside0 (At w2 (fun k => W1.heap.size ≤ k ∧ k < w2.heap.size) W1.heap.size n false [] []) := ⟨ha2.bound.mono (fun k hk => ⟨by omega, hk.2⟩)⟩
  have HU2 := Aside0.mk hu2
  have HB2 : Aside0 (Below W1.heap.size W1 w2) := ⟨hu2.to_below (Nat.le_refl _) (fun _ h => h.elim)⟩
  have hp2 : w2.cell? ⟨g0, 0, none⟩ = some (.int .i64 n) := cell_upd0 (HU1.out.step hu2) hp
  have hb2 : W1.heap.size < w2.heap.size := ha2.lt
  clear ha2 hu2
  obtain ⟨b, hb⟩ : ∃ b, b = W1.heap.size := ⟨_, rfl⟩
  rw [← hb]
  have HB0 : Aside0 (W1.heap.size ≤ b) := ⟨by omega⟩
  have HAb : Aside0 (At w2 (fun k => W1.heap.size ≤ k ∧ k < w2.heap.size) b n false [] []) := ⟨by rw [hb]; exact HA2.out⟩
  clear hb HA2
  go_wp2_with fail
  obtain ⟨W3, hW3⟩ : ∃ W3, W3 = w2.alloc (.cells #[.int .i64 n, .slice none 0 0, .bool false, .slice none 0 0] 50) := ⟨_, rfl⟩
  rw [← hW3]
  have HT : Aside0 (Two w.heap.size W1 W3 b w2.heap.size n false [] []) := ⟨by
    rw [hW3]
    exact ⟨_, fun _ => False, none, 0, none, 0, HAb.out.upd0 ((Upd.refl _ _).alloc _), heap_alloc_new _ _, Nat.le_of_lt hz1, Kd.F_nil _ _ _, Nat.le_refl _, Kd.R_nil _ _ _ _ _, fun k hk => ⟨hk.1, by have := hk.2; omega, fun h => h, by have := hk.2; simp; omega⟩, fun k hk => hk.elim, by omega, HB2.out.upd (by omega) ((Upd.refl _ (fun _ => False)).alloc _) (fun _ h => h.elim)⟩⟩
  obtain ⟨d, hd⟩ : ∃ d, d = w2.heap.size := ⟨_, rfl⟩
  rw [← hd] at HT ⊢
  clear hd hW3 HU2 HB2 HAb hp2 hb2 hp
  go_loopg [19] l.length (fun g i wr => ∃ (j : Nat) (sh : Bool) (m q : List Int), i = .int .i64 j ∧ j ≤ l.length ∧ l.length - j ≤ g ∧ m.length ≤ 32 ∧ q.length ≤ j ∧ Aside0 (Two w.heap.size W1 wr b d n sh m q))
  case atStart => exact ⟨0, false, [], [], rfl, Nat.zero_le _, by omega, by simp, by simp, HT⟩
  case round =>
    clear HT
    obtain ⟨j, sh, m, q, rfl, hj, hg, hml, hql, HT⟩ := hrel
    by_cases hlt : j < l.length
    · cases gk with
      | zero => omega
      | succ g1 =>
      obtain ⟨ad, A, c, rfl, hc0, hc1, hc2, hAc, hAC⟩ := act_at HR.out j hlt
      obtain ⟨kd, id, x, hop⟩ : ∃ kd id x, l[j] = (kd, id, x) := ⟨_, _, _, rfl⟩
      have hkw := HWF.out _ (List.getElem_mem hlt)
      rw [hop] at hc0 hc1 hc2 hAc hAC hkw
      obtain ⟨G, GL, Am, cm, Al, cl, hat, hdd, hPB, hFm, hmc, hRl, hG, hGL, hdw, hbw⟩ := HT.out
      have hbww := HB01.out.trans (hbw.mono hPB)
      have d0 := pw_cell_below hbww hc0
      have d1 := pw_cell_below hbww hc1
      have d2 := pw_cell_below hbww hc2
      have b0 : (0 : Int) ≤ (j : Int) := by omega
      have b1 : (j : Int) < (l.length : Int) := by omega
      have e1 : decide ((j : Int) < (l.length : Int)) = true := by rw [decide_eq_true_eq]; omega
      clear hop hc0 hc1 hc2 HT
      go_upto_region 6 with fail
      obtain ⟨WA, hWA⟩ : ∃ WA, WA = wr.alloc (.cells #[.int .u8 kd, .int .i64 id, .slice A x.length c] 52) := ⟨_, rfl⟩
      rw [← hWA]
      obtain ⟨a, ha⟩ : ∃ a, a = wr.heap.size := ⟨_, rfl⟩
      rw [← ha]
      have hu : Upd wr WA (fun _ => False) := by rw [hWA]; exact (Upd.refl _ _).alloc _
      have HAC : Aside0 (WA.heap[a]? = some (.cells #[.int .u8 kd, .int .i64 id, .slice A x.length c] 52 (0, 0))) := ⟨by rw [hWA, ha]; exact heap_alloc_new _ _⟩
      have HAT := Aside0.mk (hat.upd0 hu)
      have HDD := Aside0.mk ((hu.block (blk_lt hdd) (fun h => h)).trans hdd)
      have HFM := Aside0.mk (Kd.F_kept hFm hu.kept (fun _ _ h => h))
      have HRL := Aside0.mk (R_upd0 hRl hu)
      have HBW := Aside0.mk (hbw.upd (below_size hbw) hu (fun _ h => h.elim))
      have hda : d < a := by rw [ha]; exact blk_lt hdd
      have HG : Aside0 (∀ k, G k → W1.heap.size ≤ k ∧ k ≠ d ∧ ¬ GL k ∧ k < a) := ⟨by rw [ha]; exact hG⟩
      have HGL : Aside0 (∀ k, GL k → W1.heap.size ≤ k ∧ k ≠ d ∧ k < a) := ⟨by rw [ha]; exact hGL⟩
      have haw : a < WA.heap.size := blk_lt HAC.out
      have hbwa := hbww.upd (below_size hbww) hu (fun _ h => h.elim)
      have HX := Aside0.mk (C_came hAC hbwa b (by have := HB0.out; omega))
      have HXP : Aside0 (Kd.F uk WA (fun k => k < w.heap.size) A x.length x) := ⟨Kd.F_below (Kd.C_F (Kd.heap_int _) hAC) hbwa⟩
      have HZA := below_size HBW.out
      have HDW := Aside0.mk hdw
      clear hWA ha hu hbww hbwa hat hdd hFm hRl hG hGL hbw hAC d0 d1 d2
      have a0 : WA.cell? ⟨a, 0, none⟩ = some (.int .u8 kd) := blk_cell HAC.out 0
      have a1 : WA.cell? ⟨a, 1, none⟩ = some (.int .i64 id) := blk_cell HAC.out 1
      have a2 : WA.cell? ⟨a, 2, none⟩ = some (.slice A x.length c) := blk_cell HAC.out 2
      go_upto_region 9 with fail
      generalize kd.tmod 8 = r
      by_cases r0 : r = 0
      · have z0 : (r == 0) = true := beq_iff_eq.mpr r0
        clear r0
        obtain ⟨sh', m', q', hs⟩ : ∃ sh' m' q', (sh', m', q') = opS n (.show x) sh m q := ⟨_, _, _, rfl⟩
        obtain ⟨hm', hq'⟩ := opS_small hs hml h2
        have HS := Aside0.mk hs
        clear hs
        go_wp2_with fail
        refine (code_show WA G b n sh sh' m m' q q' A c x HAT.out HX.out h2 HS.out).mono ?_
        rintro e w4 ⟨v, rfl, h4, hu⟩
        have hdb : ¬ G d := fun h => (HG.out d h).2.1 rfl
        have hab : ¬ G a := fun h => by have := (HG.out a h).2.2.2; omega
        have hz4 := hu.size
        have hb1 := (hu.block haw hab).trans HAC.out
        have hb2 := (hu.block (by omega : d < WA.heap.size) hdb).trans HDD.out
        have HDD4 := Aside0.mk hb2
        have HA4 : Aside0 (At w4 (fun k => (G k ∨ WA.heap.size ≤ k) ∧ k < w4.heap.size) b n sh' m' q') := ⟨h4.bound⟩
        have HFM4 := Aside0.mk (Kd.F_kept HFM.out hu.kept (fun k hk h => by have := (HG.out k h).1; omega))
        have HXP4 := Aside0.mk (Kd.F_kept HXP.out hu.kept (fun k hk h => by have := (HG.out k h).1; omega))
        have HRL4 := Aside0.mk (R_upd' HRL.out hu (fun k hk _ h => (HG.out k h).2.2.1 hk))
        have HB4 := Aside0.mk (HBW.out.upd HZA hu (fun k hk => (HG.out k hk).1))
        have c1 : w4.cell? ⟨a, 1, none⟩ = some (.int .i64 id) := blk_cell hb1 1
        have c2 : w4.cell? ⟨a, 2, none⟩ = some (.slice A x.length c) := blk_cell hb1 2
        have d0 : w4.cell? ⟨d, 0, none⟩ = some (.int .i64 n) := blk_cell hb2 0
        have d1 : w4.cell? ⟨d, 1, none⟩ = some (.slice Am m.length cm) := blk_cell hb2 1
        have d2 : w4.cell? ⟨d, 2, none⟩ = some (.bool sh) := blk_cell hb2 2
        have d3 : w4.cell? ⟨d, 3, none⟩ = some (.slice Al q.length cl) := blk_cell hb2 3
        have hdw : W1.heap.size ≤ d := HDW.out
        have hd4 : d < w4.heap.size := blk_lt hb2
        clear h4 hu hdb hab HAT HDD HFM HRL HX HXP HBW a0 a1 a2 HAC hb1 hb2
        go_wp2_with fail
        refine (doc_show w4 _ GL n Am cm Al cl sh sh' m m' q q' A c x HFM4.out hmc HRL4.out HXP4.out hAc HS.out).mono ?_
        rintro e w5 ⟨_, _, _, rfl, ⟨Am5, cm5, Al5, cl5, rfl, hF5, hc5, hR5⟩, hu⟩
        have hb5 := (hu.block hd4 (fun h => h)).trans HDD4.out
        have HD5 := Aside0.mk hb5
        have f0 := blk_frozen hb5 0
        have f1 := blk_frozen hb5 1
        have f2 := blk_frozen hb5 2
        have f3 := blk_frozen hb5 3
        have g0' : w5.cell? ⟨d, 0, none⟩ = some (.int .i64 n) := blk_cell hb5 0
        have g1' : w5.cell? ⟨d, 1, none⟩ = some (.slice Am m.length cm) := blk_cell hb5 1
        have g2' : w5.cell? ⟨d, 2, none⟩ = some (.bool sh) := blk_cell hb5 2
        have g3' : w5.cell? ⟨d, 3, none⟩ = some (.slice Al q.length cl) := blk_cell hb5 3
        have HA5 := Aside0.mk (HA4.out.upd0 hu)
        have HB5 := Aside0.mk (HB4.out.upd (by omega) hu (fun k hk => hk.elim))
        have HF5 := Aside0.mk hF5
        have HR5 := Aside0.mk hR5
        have hz5 := hu.size
        clear c1 c2 d0 d1 d2 d3 hb5 hu hF5 hR5 HDD4 HA4 HB4 HFM4 HXP4 HRL4
        go_wp2_with fail
        go_roundg g1
        case rel => exact ⟨j + 1, sh', m', q', by go_num, by omega, by omega, hm', by omega, ⟨Two.put HA5.out HD5.out rfl hPB HF5.out hc5 HR5.out (fun k hk => by
          have h0 := hk.2
          rcases hk.1 with h | h
          · have := HG.out k h
            exact ⟨this.1, this.2.1, fun e => e.elim this.2.2.1 (fun e => by omega), by omega⟩
          · exact ⟨by omega, by omega, fun e => e.elim (fun e => by have := (HGL.out k e).2.2; omega) (fun e => by omega), by omega⟩) (fun k hk => hk.elim (fun h => ⟨(HGL.out k h).1, (HGL.out k h).2.1⟩) (fun h => ⟨by omega, by omega⟩)) hdw HB5.out⟩⟩
        case measure => omega
      have z0 : (r == 0) = false := beq_eq_false_iff_ne.mpr r0
      by_cases r1 : r = 1
      · have z1 : (r == 1) = true := beq_iff_eq.mpr r1
        clear r0 r1
        obtain ⟨sh', m', q', hs⟩ : ∃ sh' m' q', (sh', m', q') = opS n (.show x) sh m q := ⟨_, _, _, rfl⟩
        obtain ⟨hm', hq'⟩ := opS_small hs hml h2
        have HS := Aside0.mk hs
        clear hs
        go_wp2_with fail
        refine (code_show WA G b n sh sh' m m' q q' A c x HAT.out HX.out h2 HS.out).mono ?_
        rintro e w4 ⟨v, rfl, h4, hu⟩
        have hdb : ¬ G d := fun h => (HG.out d h).2.1 rfl
        have hab : ¬ G a := fun h => by have := (HG.out a h).2.2.2; omega
        have hz4 := hu.size
        have hb1 := (hu.block haw hab).trans HAC.out
        have hb2 := (hu.block (by omega : d < WA.heap.size) hdb).trans HDD.out
        have HDD4 := Aside0.mk hb2
        have HA4 : Aside0 (At w4 (fun k => (G k ∨ WA.heap.size ≤ k) ∧ k < w4.heap.size) b n sh' m' q') := ⟨h4.bound⟩
        have HFM4 := Aside0.mk (Kd.F_kept HFM.out hu.kept (fun k hk h => by have := (HG.out k h).1; omega))
        have HXP4 := Aside0.mk (Kd.F_kept HXP.out hu.kept (fun k hk h => by have := (HG.out k h).1; omega))
        have HRL4 := Aside0.mk (R_upd' HRL.out hu (fun k hk _ h => (HG.out k h).2.2.1 hk))
        have HB4 := Aside0.mk (HBW.out.upd HZA hu (fun k hk => (HG.out k hk).1))
        have c1 : w4.cell? ⟨a, 1, none⟩ = some (.int .i64 id) := blk_cell hb1 1
        have c2 : w4.cell? ⟨a, 2, none⟩ = some (.slice A x.length c) := blk_cell hb1 2
        have d0 : w4.cell? ⟨d, 0, none⟩ = some (.int .i64 n) := blk_cell hb2 0
        have d1 : w4.cell? ⟨d, 1, none⟩ = some (.slice Am m.length cm) := blk_cell hb2 1
        have d2 : w4.cell? ⟨d, 2, none⟩ = some (.bool sh) := blk_cell hb2 2
        have d3 : w4.cell? ⟨d, 3, none⟩ = some (.slice Al q.length cl) := blk_cell hb2 3
        have hdw : W1.heap.size ≤ d := HDW.out
        have hd4 : d < w4.heap.size := blk_lt hb2
        clear h4 hu hdb hab HAT HDD HFM HRL HX HXP HBW a0 a1 a2 HAC hb1 hb2
        go_wp2_with fail
        refine (doc_show w4 _ GL n Am cm Al cl sh sh' m m' q q' A c x HFM4.out hmc HRL4.out HXP4.out hAc HS.out).mono ?_
        rintro e w5 ⟨_, _, _, rfl, ⟨Am5, cm5, Al5, cl5, rfl, hF5, hc5, hR5⟩, hu⟩
        have hb5 := (hu.block hd4 (fun h => h)).trans HDD4.out
        have HD5 := Aside0.mk hb5
        have f0 := blk_frozen hb5 0
        have f1 := blk_frozen hb5 1
        have f2 := blk_frozen hb5 2
        have f3 := blk_frozen hb5 3
        have g0' : w5.cell? ⟨d, 0, none⟩ = some (.int .i64 n) := blk_cell hb5 0
        have g1' : w5.cell? ⟨d, 1, none⟩ = some (.slice Am m.length cm) := blk_cell hb5 1
        have g2' : w5.cell? ⟨d, 2, none⟩ = some (.bool sh) := blk_cell hb5 2
        have g3' : w5.cell? ⟨d, 3, none⟩ = some (.slice Al q.length cl) := blk_cell hb5 3
        have HA5 := Aside0.mk (HA4.out.upd0 hu)
        have HB5 := Aside0.mk (HB4.out.upd (by omega) hu (fun k hk => hk.elim))
        have HF5 := Aside0.mk hF5
        have HR5 := Aside0.mk hR5
        have hz5 := hu.size
        clear c1 c2 d0 d1 d2 d3 hb5 hu hF5 hR5 HDD4 HA4 HB4 HFM4 HXP4 HRL4
        go_wp2_with fail
        go_roundg g1
        case rel => exact ⟨j + 1, sh', m', q', by go_num, by omega, by omega, hm', by omega, ⟨Two.put HA5.out HD5.out rfl hPB HF5.out hc5 HR5.out (fun k hk => by
          have h0 := hk.2
          rcases hk.1 with h | h
          · have := HG.out k h
            exact ⟨this.1, this.2.1, fun e => e.elim this.2.2.1 (fun e => by omega), by omega⟩
          · exact ⟨by omega, by omega, fun e => e.elim (fun e => by have := (HGL.out k e).2.2; omega) (fun e => by omega), by omega⟩) (fun k hk => hk.elim (fun h => ⟨(HGL.out k h).1, (HGL.out k h).2.1⟩) (fun h => ⟨by omega, by omega⟩)) hdw HB5.out⟩⟩
        case measure => omega
      have z1 : (r == 1) = false := beq_eq_false_iff_ne.mpr r1
      by_cases r2 : r = 2
      · have z2 : (r == 2) = true := beq_iff_eq.mpr r2
        clear r0 r1 r2
        obtain ⟨sh', m', q', hs⟩ : ∃ sh' m' q', (sh', m', q') = opS n (.clear) sh m q := ⟨_, _, _, rfl⟩
        obtain ⟨hm', hq'⟩ := opS_small hs hml h2
        have HS := Aside0.mk hs
        clear hs
        go_wp2_with fail
        refine (code_clear WA G b n sh sh' m m' q q' HAT.out HS.out).mono ?_
        rintro e w4 ⟨v, rfl, h4, hu⟩
        have hdb : ¬ G d := fun h => (HG.out d h).2.1 rfl
        have hab : ¬ G a := fun h => by have := (HG.out a h).2.2.2; omega
        have hz4 := hu.size
        have hb1 := (hu.block haw hab).trans HAC.out
        have hb2 := (hu.block (by omega : d < WA.heap.size) hdb).trans HDD.out
        have HDD4 := Aside0.mk hb2
        have HA4 : Aside0 (At w4 (fun k => (G k ∨ WA.heap.size ≤ k) ∧ k < w4.heap.size) b n sh' m' q') := ⟨h4.bound⟩
        have HFM4 := Aside0.mk (Kd.F_kept HFM.out hu.kept (fun k hk h => by have := (HG.out k h).1; omega))
        have HXP4 := Aside0.mk (Kd.F_kept HXP.out hu.kept (fun k hk h => by have := (HG.out k h).1; omega))
        have HRL4 := Aside0.mk (R_upd' HRL.out hu (fun k hk _ h => (HG.out k h).2.2.1 hk))
        have HB4 := Aside0.mk (HBW.out.upd HZA hu (fun k hk => (HG.out k hk).1))
        have c1 : w4.cell? ⟨a, 1, none⟩ = some (.int .i64 id) := blk_cell hb1 1
        have c2 : w4.cell? ⟨a, 2, none⟩ = some (.slice A x.length c) := blk_cell hb1 2
        have d0 : w4.cell? ⟨d, 0, none⟩ = some (.int .i64 n) := blk_cell hb2 0
        have d1 : w4.cell? ⟨d, 1, none⟩ = some (.slice Am m.length cm) := blk_cell hb2 1
        have d2 : w4.cell? ⟨d, 2, none⟩ = some (.bool sh) := blk_cell hb2 2
        have d3 : w4.cell? ⟨d, 3, none⟩ = some (.slice Al q.length cl) := blk_cell hb2 3
        have hdw : W1.heap.size ≤ d := HDW.out
        have hd4 : d < w4.heap.size := blk_lt hb2
        clear h4 hu hdb hab HAT HDD HFM HRL HX HXP HBW a0 a1 a2 HAC hb1 hb2
        go_wp2_with fail
        refine (doc_clear w4 (fun k => k < w.heap.size) GL n Am cm Al cl sh sh' m m' q q' HRL4.out HS.out).mono ?_
        rintro e w5 ⟨_, rfl, ⟨Am5, cm5, Al5, cl5, rfl, hF5, hc5, hR5⟩, hu⟩
        have hb5 := (hu.block hd4 (fun h => h)).trans HDD4.out
        have HD5 := Aside0.mk hb5
        have f0 := blk_frozen hb5 0
        have f1 := blk_frozen hb5 1
        have f2 := blk_frozen hb5 2
        have f3 := blk_frozen hb5 3
        have g0' : w5.cell? ⟨d, 0, none⟩ = some (.int .i64 n) := blk_cell hb5 0
        have g1' : w5.cell? ⟨d, 1, none⟩ = some (.slice Am m.length cm) := blk_cell hb5 1
        have g2' : w5.cell? ⟨d, 2, none⟩ = some (.bool sh) := blk_cell hb5 2
        have g3' : w5.cell? ⟨d, 3, none⟩ = some (.slice Al q.length cl) := blk_cell hb5 3
        have HA5 := Aside0.mk (HA4.out.upd0 hu)
        have HB5 := Aside0.mk (HB4.out.upd (by omega) hu (fun k hk => hk.elim))
        have HF5 := Aside0.mk hF5
        have HR5 := Aside0.mk hR5
        have hz5 := hu.size
        clear c1 c2 d0 d1 d2 d3 hb5 hu hF5 hR5 HDD4 HA4 HB4 HFM4 HXP4 HRL4
        go_wp2_with fail
        go_roundg g1
        case rel => exact ⟨j + 1, sh', m', q', by go_num, by omega, by omega, hm', by omega, ⟨Two.put HA5.out HD5.out rfl hPB HF5.out hc5 HR5.out (fun k hk => by
          have h0 := hk.2
          rcases hk.1 with h | h
          · have := HG.out k h
            exact ⟨this.1, this.2.1, fun e => e.elim this.2.2.1 (fun e => by omega), by omega⟩
          · exact ⟨by omega, by omega, fun e => e.elim (fun e => by have := (HGL.out k e).2.2; omega) (fun e => by omega), by omega⟩) (fun k hk => hk.elim (fun h => ⟨(HGL.out k h).1, (HGL.out k h).2.1⟩) (fun h => ⟨by omega, by omega⟩)) hdw HB5.out⟩⟩
        case measure => omega
      have z2 : (r == 2) = false := beq_eq_false_iff_ne.mpr r2
      by_cases r6 : r = 6
      · have z6 : (r == 6) = true := beq_iff_eq.mpr r6
        clear r0 r1 r2 r6
        obtain ⟨sh', m', q', hs⟩ : ∃ sh' m' q', (sh', m', q') = opS n (.drop id) sh m q := ⟨_, _, _, rfl⟩
        obtain ⟨hm', hq'⟩ := opS_small hs hml h2
        have HS := Aside0.mk hs
        clear hs
        go_wp2_with fail
        refine (code_drop WA G b n sh sh' m m' q q' id HAT.out (by omega) HS.out).mono ?_
        rintro e w4 ⟨v, rfl, h4, hu⟩
        have hdb : ¬ G d := fun h => (HG.out d h).2.1 rfl
        have hab : ¬ G a := fun h => by have := (HG.out a h).2.2.2; omega
        have hz4 := hu.size
        have hb1 := (hu.block haw hab).trans HAC.out
        have hb2 := (hu.block (by omega : d < WA.heap.size) hdb).trans HDD.out
        have HDD4 := Aside0.mk hb2
        have HA4 : Aside0 (At w4 (fun k => (G k ∨ WA.heap.size ≤ k) ∧ k < w4.heap.size) b n sh' m' q') := ⟨h4.bound⟩
        have HFM4 := Aside0.mk (Kd.F_kept HFM.out hu.kept (fun k hk h => by have := (HG.out k h).1; omega))
        have HXP4 := Aside0.mk (Kd.F_kept HXP.out hu.kept (fun k hk h => by have := (HG.out k h).1; omega))
        have HRL4 := Aside0.mk (R_upd' HRL.out hu (fun k hk _ h => (HG.out k h).2.2.1 hk))
        have HB4 := Aside0.mk (HBW.out.upd HZA hu (fun k hk => (HG.out k hk).1))
        have c1 : w4.cell? ⟨a, 1, none⟩ = some (.int .i64 id) := blk_cell hb1 1
        have c2 : w4.cell? ⟨a, 2, none⟩ = some (.slice A x.length c) := blk_cell hb1 2
        have d0 : w4.cell? ⟨d, 0, none⟩ = some (.int .i64 n) := blk_cell hb2 0
        have d1 : w4.cell? ⟨d, 1, none⟩ = some (.slice Am m.length cm) := blk_cell hb2 1
        have d2 : w4.cell? ⟨d, 2, none⟩ = some (.bool sh) := blk_cell hb2 2
        have d3 : w4.cell? ⟨d, 3, none⟩ = some (.slice Al q.length cl) := blk_cell hb2 3
        have hdw : W1.heap.size ≤ d := HDW.out
        have hd4 : d < w4.heap.size := blk_lt hb2
        clear h4 hu hdb hab HAT HDD HFM HRL HX HXP HBW a0 a1 a2 HAC hb1 hb2
        go_wp2_with fail
        refine (doc_drop w4 _ GL n Am cm Al cl sh sh' m m' q q' id HFM4.out hmc HRL4.out (by omega) HS.out).mono ?_
        rintro e w5 ⟨_, _, rfl, ⟨Am5, cm5, Al5, cl5, rfl, hF5, hc5, hR5⟩, hu⟩
        have hb5 := (hu.block hd4 (fun h => h)).trans HDD4.out
        have HD5 := Aside0.mk hb5
        have f0 := blk_frozen hb5 0
        have f1 := blk_frozen hb5 1
        have f2 := blk_frozen hb5 2
        have f3 := blk_frozen hb5 3
        have g0' : w5.cell? ⟨d, 0, none⟩ = some (.int .i64 n) := blk_cell hb5 0
        have g1' : w5.cell? ⟨d, 1, none⟩ = some (.slice Am m.length cm) := blk_cell hb5 1
        have g2' : w5.cell? ⟨d, 2, none⟩ = some (.bool sh) := blk_cell hb5 2
        have g3' : w5.cell? ⟨d, 3, none⟩ = some (.slice Al q.length cl) := blk_cell hb5 3
        have HA5 := Aside0.mk (HA4.out.upd0 hu)
        have HB5 := Aside0.mk (HB4.out.upd (by omega) hu (fun k hk => hk.elim))
        have HF5 := Aside0.mk hF5
        have HR5 := Aside0.mk hR5
        have hz5 := hu.size
        clear c1 c2 d0 d1 d2 d3 hb5 hu hF5 hR5 HDD4 HA4 HB4 HFM4 HXP4 HRL4
        go_wp2_with fail
        go_roundg g1
        case rel => exact ⟨j + 1, sh', m', q', by go_num, by omega, by omega, hm', by omega, ⟨Two.put HA5.out HD5.out rfl hPB HF5.out hc5 HR5.out (fun k hk => by
          have h0 := hk.2
          rcases hk.1 with h | h
          · have := HG.out k h
            exact ⟨this.1, this.2.1, fun e => e.elim this.2.2.1 (fun e => by omega), by omega⟩
          · exact ⟨by omega, by omega, fun e => e.elim (fun e => by have := (HGL.out k e).2.2; omega) (fun e => by omega), by omega⟩) (fun k hk => hk.elim (fun h => ⟨(HGL.out k h).1, (HGL.out k h).2.1⟩) (fun h => ⟨by omega, by omega⟩)) hdw HB5.out⟩⟩
        case measure => omega
      have z6 : (r == 6) = false := beq_eq_false_iff_ne.mpr r6
      clear r0 r1 r2 r6
      obtain ⟨sh', m', q', hs⟩ : ∃ sh' m' q', (sh', m', q') = opS n (.read id) sh m q := ⟨_, _, _, rfl⟩
      obtain ⟨hm', hq'⟩ := opS_small hs hml h2
      have HS := Aside0.mk hs
      clear hs
      go_wp2_with fail
      refine (code_read WA G b n sh sh' m m' q q' id HAT.out (by omega) (by omega) HS.out).mono ?_
      rintro e w4 ⟨v, rfl, h4, hu⟩
      have hdb : ¬ G d := fun h => (HG.out d h).2.1 rfl
      have hab : ¬ G a := fun h => by have := (HG.out a h).2.2.2; omega
      have hz4 := hu.size
      have hb1 := (hu.block haw hab).trans HAC.out
      have hb2 := (hu.block (by omega : d < WA.heap.size) hdb).trans HDD.out
      have HDD4 := Aside0.mk hb2
      have HA4 : Aside0 (At w4 (fun k => (G k ∨ WA.heap.size ≤ k) ∧ k < w4.heap.size) b n sh' m' q') := ⟨h4.bound⟩
      have HFM4 := Aside0.mk (Kd.F_kept HFM.out hu.kept (fun k hk h => by have := (HG.out k h).1; omega))
      have HXP4 := Aside0.mk (Kd.F_kept HXP.out hu.kept (fun k hk h => by have := (HG.out k h).1; omega))
      have HRL4 := Aside0.mk (R_upd' HRL.out hu (fun k hk _ h => (HG.out k h).2.2.1 hk))
      have HB4 := Aside0.mk (HBW.out.upd HZA hu (fun k hk => (HG.out k hk).1))
      have c1 : w4.cell? ⟨a, 1, none⟩ = some (.int .i64 id) := blk_cell hb1 1
      have c2 : w4.cell? ⟨a, 2, none⟩ = some (.slice A x.length c) := blk_cell hb1 2
      have d0 : w4.cell? ⟨d, 0, none⟩ = some (.int .i64 n) := blk_cell hb2 0
      have d1 : w4.cell? ⟨d, 1, none⟩ = some (.slice Am m.length cm) := blk_cell hb2 1
      have d2 : w4.cell? ⟨d, 2, none⟩ = some (.bool sh) := blk_cell hb2 2
      have d3 : w4.cell? ⟨d, 3, none⟩ = some (.slice Al q.length cl) := blk_cell hb2 3
      have hdw : W1.heap.size ≤ d := HDW.out
      have hd4 : d < w4.heap.size := blk_lt hb2
      clear h4 hu hdb hab HAT HDD HFM HRL HX HXP HBW a0 a1 a2 HAC hb1 hb2
      go_wp2_with fail
      refine (doc_read w4 _ GL n Am cm Al cl sh sh' m m' q q' id HFM4.out hmc HRL4.out (by omega) HS.out).mono ?_
      rintro e w5 ⟨_, _, _, rfl, ⟨Am5, cm5, Al5, cl5, rfl, hF5, hc5, hR5⟩, hu⟩
      have hb5 := (hu.block hd4 (fun h => h)).trans HDD4.out
      have HD5 := Aside0.mk hb5
      have f0 := blk_frozen hb5 0
      have f1 := blk_frozen hb5 1
      have f2 := blk_frozen hb5 2
      have f3 := blk_frozen hb5 3
      have g0' : w5.cell? ⟨d, 0, none⟩ = some (.int .i64 n) := blk_cell hb5 0
      have g1' : w5.cell? ⟨d, 1, none⟩ = some (.slice Am m.length cm) := blk_cell hb5 1
      have g2' : w5.cell? ⟨d, 2, none⟩ = some (.bool sh) := blk_cell hb5 2
      have g3' : w5.cell? ⟨d, 3, none⟩ = some (.slice Al q.length cl) := blk_cell hb5 3
      have HA5 := Aside0.mk (HA4.out.upd0 hu)
      have HB5 := Aside0.mk (HB4.out.upd (by omega) hu (fun k hk => hk.elim))
      have HF5 := Aside0.mk hF5
      have HR5 := Aside0.mk hR5
      have hz5 := hu.size
      clear c1 c2 d0 d1 d2 d3 hb5 hu hF5 hR5 HDD4 HA4 HB4 HFM4 HXP4 HRL4
      go_wp2_with fail
      go_roundg g1
      case rel => exact ⟨j + 1, sh', m', q', by go_num, by omega, by omega, hm', by omega, ⟨Two.put HA5.out HD5.out rfl hPB HF5.out hc5 HR5.out (fun k hk => by
        have h0 := hk.2
        rcases hk.1 with h | h
        · have := HG.out k h
          exact ⟨this.1, this.2.1, fun e => e.elim this.2.2.1 (fun e => by omega), by omega⟩
        · exact ⟨by omega, by omega, fun e => e.elim (fun e => by have := (HGL.out k e).2.2; omega) (fun e => by omega), by omega⟩) (fun k hk => hk.elim (fun h => ⟨(HGL.out k h).1, (HGL.out k h).2.1⟩) (fun h => ⟨by omega, by omega⟩)) hdw HB5.out⟩⟩
      case measure => omega
    · have e1 : decide ((j : Int) < (l.length : Int)) = false := by rw [decide_eq_false_iff_not]; omega
      have b3 : (l.length : Int) ≤ (j : Int) := by omega
      obtain ⟨G, GL, Am, cm, Al, cl, hat, hdd, hPB, hFm, hmc, hRl, hG, hGL, hdw, hbw⟩ := HT.out
      have hzb := blk_below HZ.out hbw
      have k0 : wr.cell? ⟨d, 0, none⟩ = some (.int .i64 n) := blk_cell hdd 0
      have k1 : wr.cell? ⟨d, 1, none⟩ = some (.slice Am m.length cm) := blk_cell hdd 1
      have k2 : wr.cell? ⟨d, 2, none⟩ = some (.bool sh) := blk_cell hdd 2
      have k3 : wr.cell? ⟨d, 3, none⟩ = some (.slice Al q.length cl) := blk_cell hdd 3
      have f0 := blk_frozen hzb 0
      have f1 := blk_frozen hzb 1
      have f2 := blk_frozen hzb 2
      have f3 := blk_frozen hzb 3
      have d0 : wr.cell? ⟨w.heap.size, 0, none⟩ = some (.int .i64 0) := blk_cell hzb 0
      have d1 : wr.cell? ⟨w.heap.size, 1, none⟩ = some (.slice none 0 0) := blk_cell hzb 1
      have d2 : wr.cell? ⟨w.heap.size, 2, none⟩ = some (.bool false) := blk_cell hzb 2
      have d3 : wr.cell? ⟨w.heap.size, 3, none⟩ = some (.slice none 0 0) := blk_cell hzb 3
      have hnd : ¬ d = w.heap.size := by omega
      have hX : Upd wr _ (fun k => k = w.heap.size) := upd4 wr wr (fun k => k = w.heap.size) (Upd.refl _ _) w.heap.size (.inl rfl) (.int .i64 n) (.slice Am m.length cm) (.bool sh) (.slice Al q.length cl)
      have hz6 := hX.size
      have HA6 := Aside0.mk ((hat.upd' hX (fun k hk _ h => by have := (hG k hk).1; omega)).mono (G := fun k => w.heap.size ≤ k ∧ k < (World.heap _).size) (fun k hk => ⟨by have := (hG k hk).1; omega, Nat.lt_of_lt_of_le (hG k hk).2.2.2 hX.size⟩))
      have HB6 := Aside0.mk ((HB01.out.trans (hbw.mono hPB)).upd (by have := below_size hbw; omega) hX (fun k hk => by omega))
      have HM6 := Aside0.mk (Kd.F_now (Kd.F_kept hFm hX.kept (fun k hk h => by omega)))
      have HQ6 := Aside0.mk (Kd.R_reads' (R_upd' hRl hX (fun k hk _ h => by have := (hGL k hk).1; omega))).2
      have HZ6 := Aside0.mk hzb
      clear hat hdd hFm hRl hG hGL hbw hX hzb HT
      go_wp2_with fail
      go_region
      all_goals
        go_wp2_with fail
        exact bodyPost_ret (results_tc rfl _ _ w.heap.size 50 #[.int .i64 n, .slice Am m.length cm, .bool sh, .slice Al q.length cl] (0, 0) _ rfl (set4 HZ6.out rfl) Try.underlying50 rfl (by kernel_rfl)) rfl ⟨b, sh, m, q, Am, cm, Al, cl, rfl, HA6.out.upd0 ((Upd.refl _ _).drew), Kd.C_drew HM6.out, hmc, Kd.C_drew HQ6.out.2, HQ6.out.1, hml, by omega, HB6.out.drew⟩
end Go.Proofs.Ytdmhlfjocajinaa.BdMade
