import Derived.Test.YtdmhlfjocajinaaBdSt
import Derived.Test.YtdmhlfjocajinaaBdRSame
import Derived.RegionTactic
set_option linter.unusedVariables false
set_option linter.unusedSimpArgs false
namespace Go.Proofs.Ytdmhlfjocajinaa.BdPlays
attribute [local go_sem ↓] Go.wp_at_zero Go.wp_at_succ
open Go.RowKit Go.Proofs.YtdmhlfjocajinaaW.PrintWords Go.Proofs.Ytdmhlfjocajinaa.Own Go.Proofs.Ytdmhlfjocajinaa.Own2 Go.Proofs.Ytdmhlfjocajinaa.Own3 Go.Proofs.Ytdmhlfjocajinaa.Board Go.Proofs.Ytdmhlfjocajinaa.BdSp Go.Proofs.Ytdmhlfjocajinaa.BdRef Go.Proofs.Ytdmhlfjocajinaa.BdOp Go.Proofs.Ytdmhlfjocajinaa.BdMade Go.Proofs.Ytdmhlfjocajinaa.BdOp2 Go.Proofs.Ytdmhlfjocajinaa.BdSt Go.Proofs.Ytdmhlfjocajinaa.BdRSame

set_option maxRecDepth 20000 in
set_option maxHeartbeats 40000000 in
theorem walk (r0 : Int) (A0 : Option Addr) (c0 : Nat) (l : List (Int × Int × List Int)) (w : World) (_ : (Lit.int .i64 r0).wf = true) (hr : ak.C w A0 l.length l) (hc : l.length ≤ c0) (hp : ∀ y ∈ l, (Lit.int .u8 y.1).wf = true ∧ (Lit.int .i64 y.2.1).wf = true ∧ ∀ z ∈ y.2.2, (Lit.int .u32 z).wf = true) :
    Calls Try.prog 8 #[.int .i64 r0, .slice A0 l.length c0] w fun e w' => e = .returned (.bool true) ∧ Below w.heap.size w w' := by
  have HR := Aside0.mk hr
  have HWF := Aside0.mk (fun y hy => (hp y hy).1)
  clear hr hp
  have hu50 := Try.underlying50
  have hu52 := Try.underlying52
  by_cases hl : l.length ≤ 60
  rotate_left
  · have e1 : decide ((l.length : Int) > 60) = true := by rw [decide_eq_true_eq]; omega
    have e2 : (60 : Int) < (l.length : Int) := by omega
    go_enter Try.func8, Try.ntmps8
    go_wp2_with fail
    refine (speaks_calls w).mono ?_
    rintro e w1 ⟨rfl, hu1⟩
    have U1 := Aside0.mk hu1
    clear hu1
    go_wp2_with fail
    refine (speaks_calls w1).mono ?_
    rintro e w2 ⟨rfl, hu2⟩
    have U2 := Aside0.mk (U1.out.step hu2)
    clear hu2
    go_wp2_with fail
    go_ret
    exact ⟨rfl, U2.out.to_below (Nat.le_refl _) (fun _ h => h.elim)⟩
  have e1 : decide ((l.length : Int) > 60) = false := by rw [decide_eq_false_iff_not]; omega
  have e2 : ¬ (60 : Int) < (l.length : Int) := by omega
  by_cases hb : 1 ≤ r0 ∧ r0 ≤ 32
  rotate_left
  · have NOT : ∀ (b1 b2 : Bool), decide (r0 < 1) = b1 → decide (r0 > 32) = b2 → (b1 = false → b2 = true) → Calls Try.prog 8 #[.int .i64 r0, .slice A0 l.length c0] w fun e w' => e = .returned (.bool true) ∧ Below w.heap.size w w' := by
      intro b1 b2 e3 e4 e5
      have e4' : decide (32 < r0) = b2 := e4
      cases b1
      · have e6 := e5 rfl
        subst e6
        go_enter Try.func8, Try.ntmps8
        go_wp2_with fail
        refine (speaks_calls w).mono ?_
        rintro e w1 ⟨rfl, hu1⟩
        have U1 := Aside0.mk hu1
        clear hu1
        go_wp2_with fail
        refine (new_not w1 r0 hb).mono ?_
        rintro e w2 ⟨rfl, rfl⟩
        go_wp2_with fail
        go_ret
        exact ⟨rfl, U1.out.to_below (Nat.le_refl _) (fun _ h => h.elim)⟩
      · go_enter Try.func8, Try.ntmps8
        go_wp2_with fail
        refine (speaks_calls w).mono ?_
        rintro e w1 ⟨rfl, hu1⟩
        have U1 := Aside0.mk hu1
        clear hu1
        go_wp2_with fail
        refine (new_not w1 r0 hb).mono ?_
        rintro e w2 ⟨rfl, rfl⟩
        go_wp2_with fail
        go_ret
        exact ⟨rfl, U1.out.to_below (Nat.le_refl _) (fun _ h => h.elim)⟩
    exact NOT _ _ rfl rfl (fun h => by rw [decide_eq_false_iff_not] at h; rw [decide_eq_true_eq]; omega)
  obtain ⟨n, rfl, hn1, hn2⟩ : ∃ n : Nat, r0 = (n : Int) ∧ 1 ≤ n ∧ n ≤ 32 := ⟨r0.toNat, by omega, by omega, by omega⟩
  have e3 : decide ((n : Int) < 1) = false := by rw [decide_eq_false_iff_not]; omega
  have e4 : decide ((n : Int) > 32) = false := by rw [decide_eq_false_iff_not]; omega
  have e5 : ¬ (n : Int) < 1 := by omega
  have e6 : ¬ (32 : Int) < (n : Int) := by omega
  clear hb
  go_enter Try.func8, Try.ntmps8
  go_wp2_with fail
  refine (speaks_calls w).mono ?_
  rintro e w1 ⟨rfl, hu1⟩
  have U1 := Aside0.mk hu1
  have hz1 := hu1.size
  clear hu1
  go_wp2_with fail
  refine (new_calls w1 n hn1 hn2).mono ?_
  rintro e w2 ⟨rfl, ha2, hu2⟩
  have hb2 : w1.heap.size < w2.heap.size := ha2.lt
  have HA2 : Aside0 (At w2 (fun k => w.heap.size ≤ k ∧ k < w2.heap.size) w1.heap.size n false [] []) := ⟨ha2.mono (fun k hk => by omega)⟩
  have HB2 : Aside0 (Below w.heap.size w w2) := ⟨(U1.out.step hu2).to_below (Nat.le_refl _) (fun _ h => h.elim)⟩
  clear ha2 hu2 U1
  obtain ⟨b, hb⟩ : ∃ b, b = w1.heap.size := ⟨_, rfl⟩
  rw [← hb] at HA2 ⊢
  clear hb
  go_wp2_with fail
  obtain ⟨W3, hW3⟩ : ∃ W3, W3 = w2.alloc (.cells #[.int .i64 n, .slice none 0 0, .bool false, .slice none 0 0] 50) := ⟨_, rfl⟩
  rw [← hW3]
  have HT : Aside0 (Two w.heap.size w W3 b w2.heap.size n false [] []) := ⟨by
    rw [hW3]
    exact ⟨_, fun _ => False, none, 0, none, 0, HA2.out.upd0 ((Upd.refl _ _).alloc _), heap_alloc_new _ _, Nat.le_refl _, Kd.F_nil _ _ _, Nat.le_refl _, Kd.R_nil _ _ _ _ _, fun k hk => ⟨hk.1, by have := hk.2; omega, fun h => h, by have := hk.2; simp; omega⟩, fun k hk => hk.elim, by omega, HB2.out.upd (by omega) ((Upd.refl _ (fun _ => False)).alloc _) (fun _ h => h.elim)⟩⟩
  obtain ⟨d, hd⟩ : ∃ d, d = w2.heap.size := ⟨_, rfl⟩
  rw [← hd] at HT ⊢
  clear hd hW3 HB2 HA2 hb2
  go_loopg [5, 60] l.length (fun g i5 i60 wr => ∃ (j : Nat) (b : Nat) (sh : Bool) (m q : List Int), i5 = .pointer (some ⟨b, 0, none⟩) ∧ i60 = .int .i64 j ∧ j ≤ l.length ∧ l.length - j ≤ g ∧ m.length ≤ 32 ∧ q.length ≤ j ∧ Aside0 (sh = false → m = []) ∧ Aside0 (Two w.heap.size w wr b d n sh m q))
  case atStart => exact ⟨0, b, false, [], [], rfl, rfl, Nat.zero_le _, by omega, by simp, by simp, ⟨fun _ => rfl⟩, HT⟩
  case round =>
    clear HT
    obtain ⟨j, b, sh, m, q, rfl, rfl, hj, hg, hml, hql, HSM, HT⟩ := hrel
    by_cases hlt : j < l.length
    · cases gk with
      | zero => omega
      | succ g1 =>
      obtain ⟨ad, A, c, rfl, hc0, hc1, hc2, hAc, hAC⟩ := act_at HR.out j hlt
      obtain ⟨kd, id, x, hop⟩ : ∃ kd id x, l[j] = (kd, id, x) := ⟨_, _, _, rfl⟩
      have hkw := HWF.out _ (List.getElem_mem hlt)
      rw [hop] at hc0 hc1 hc2 hAc hAC hkw
      obtain ⟨G, GL, Am, cm, Al, cl, hat, hdd, hPB, hFm, hmc, hRl, hG, hGL, hdw, hbw⟩ := HT.out
      have d0 := pw_cell_below hbw hc0
      have d1 := pw_cell_below hbw hc1
      have d2 := pw_cell_below hbw hc2
      have b0 : (0 : Int) ≤ (j : Int) := by omega
      have b1 : (j : Int) < (l.length : Int) := by omega
      have e1 : decide ((j : Int) < (l.length : Int)) = true := by rw [decide_eq_true_eq]; omega
      clear hop hc0 hc1 hc2 HT
      go_upto_region 12 with fail
      obtain ⟨WA, hWA⟩ : ∃ WA, WA = wr.alloc (.cells #[.int .u8 kd, .int .i64 id, .slice A x.length c] 52) := ⟨_, rfl⟩
      rw [← hWA]
      obtain ⟨a, ha⟩ : ∃ a, a = wr.heap.size := ⟨_, rfl⟩
      rw [← ha]
      have hu : Upd wr WA (fun _ => False) := by rw [hWA]; exact (Upd.refl _ _).alloc _
      have hbwa := hbw.upd (below_size hbw) hu (fun _ h => h.elim)
      have hda : d < a := by rw [ha]; exact blk_lt hdd
      have HS : Aside0 (St w WA G GL b d a n sh m q sh m q Am cm Al cl kd id x A c) := ⟨{
        hat := hat.upd0 hu
        hd := (hu.block (blk_lt hdd) (fun h => h)).trans hdd
        ha := by rw [hWA, ha]; exact heap_alloc_new _ _
        hm := Kd.F_kept hFm hu.kept (fun _ _ h => h)
        hmc := hmc
        hq := R_upd0 hRl hu
        hx := Kd.F_below (Kd.C_F (Kd.heap_int _) hAC) hbwa
        hG := fun k hk => ⟨(hG k hk).1, (hG k hk).2.1, by have := (hG k hk).2.2.2; omega, (hG k hk).2.2.1, Nat.lt_of_lt_of_le (hG k hk).2.2.2 hu.size⟩
        hGL := fun k hk => ⟨(hGL k hk).1, (hGL k hk).2.1, by have := (hGL k hk).2.2; omega, Nat.lt_of_lt_of_le (hGL k hk).2.2 hu.size⟩
        hda := by omega
        hdw := hdw
        haw := by omega
        hb := hbwa }⟩
      clear hWA ha hu hat hdd hFm hRl hG hGL hbw hbwa d0 d1 d2 hda hmc hdw hPB hAC
      have a0 : WA.cell? ⟨a, 0, none⟩ = some (.int .u8 kd) := blk_cell HS.out.ha 0
      have a1 : WA.cell? ⟨a, 1, none⟩ = some (.int .i64 id) := blk_cell HS.out.ha 1
      have a2 : WA.cell? ⟨a, 2, none⟩ = some (.slice A x.length c) := blk_cell HS.out.ha 2
      by_cases hx60 : x.length ≤ 60
      rotate_left
      · have e7 : decide ((x.length : Int) > 60) = true := by rw [decide_eq_true_eq]; omega
        have e8 : (60 : Int) < (x.length : Int) := by omega
        have HB := Aside0.mk HS.out.hb
        go_wp2_with fail
        go_ret
        exact ⟨rfl, HB.out⟩
      have e7 : decide ((x.length : Int) > 60) = false := by rw [decide_eq_false_iff_not]; omega
      have e8 : ¬ (60 : Int) < (x.length : Int) := by omega
      go_upto_if 70 with fail
      go_cut [5] (fun s5 wc => ∃ (b : Nat) (G : Nat → Prop), s5 = .pointer (some ⟨b, 0, none⟩) ∧ Aside0 (St w wc G GL b d a n sh m q sh m q Am cm Al cl kd id x A c))
      case first =>
        cases hk : decide (kd ≥ 128) with
        | false =>
          go_wp2_with fail
          go_meet
          exact ⟨b, G, rfl, HS⟩
        | true =>
          go_wp2_with fail
          refine (clone_calls WA G b n sh m q HS.out.hat (by omega) (by omega)).mono ?_
          rintro e w4 ⟨b', rfl, hb', h4, hu⟩
          have HO := Aside0.mk (HS.out.hat.upd0 hu)
          have HGB : Aside0 (∀ k, G k → k < WA.heap.size) := ⟨fun k hk => (HS.out.hG k hk).2.2.2.2⟩
          have HS4 := Aside0.mk (HS.out.clone h4 hu)
          have hz4 := hu.size
          clear h4 hu
          go_wp2_with fail
          refine (same_calls w4 _ _ b' b n n sh sh m m q q HS4.out.hat HO.out).mono ?_
          rw [sameB_self]
          rintro e w5 ⟨rfl, hq5⟩
          have hu5 := Upd.of_q hq5
          have HS5 := Aside0.mk (HS4.out.upd0 hu5)
          have HO5 := Aside0.mk (HO.out.upd0 hu5)
          have hz5 := hu5.size
          have a1 : w5.cell? ⟨a, 1, none⟩ = some (.int .i64 id) := blk_cell HS5.out.ha 1
          clear hq5 hu5 HS4 HO a0 a2
          go_wp2_with fail
          obtain ⟨s6, m6, q6, hs6⟩ : ∃ s6 m6 q6, (s6, m6, q6) = opS n (.read id) sh m q := ⟨_, _, _, rfl⟩
          have HE6 := Aside0.mk hs6
          clear hs6
          refine (BdOp.code_read w5 G b n sh s6 m m6 q q6 id HO5.out (by omega) (by omega) HE6.out).mono ?_
          rintro e w6 ⟨v6, rfl, h6, hu6⟩
          have HO6 := Aside0.mk h6.bound
          have hz6 := hu6.size
          have HS6 := Aside0.mk (HS5.out.foreign hu6 (fun k hk => by
            have h1 := HS.out.hG k hk
            exact ⟨h1.1, h1.2.1, h1.2.2.1, h1.2.2.2.1, fun h => by omega⟩))
          clear h6 hu6 HS5 HO5 a1
          go_wp2_with fail
          have hRL := R_litN .u32 w6 29 [7] (by simp)
          have hu7 : Upd w6 (w6.alloc (.cells #[.int .u32 7] 29)) (fun _ => False) := (Upd.refl _ _).alloc _
          obtain ⟨s8, m8, q8, hs8⟩ : ∃ s8 m8 q8, (s8, m8, q8) = opS n (.show [7]) s6 m6 q6 := ⟨_, _, _, rfl⟩
          have hb6 : b < w6.heap.size := HO6.out.lt
          have hF7 := Kd.F_mono (ok' := fun k => k ≠ b) (Kd.V_at (Kd.R_V (base' := 0) hRL)).2.2 (fun k (hk : k = w6.heap.size) h => by omega)
          have HS7 := Aside0.mk (HS6.out.upd0 hu7)
          refine (BdOp.code_show _ _ b n s6 s8 m6 m8 q6 q8 _ 1 [7] (HO6.out.upd0 hu7) hF7 hn2 hs8).mono ?_
          rintro e w8 ⟨v8, rfl, h8, hu8⟩
          have HS8 := Aside0.mk (HS7.out.foreign hu8 (fun k hk => by
            have hda := HS.out.hda
            have h2 := blk_lt HS.out.hd
            have h3 := blk_lt HS.out.ha
            have h4 := below_size HS.out.hb
            rcases hk.1 with h | h
            · have h1 := HS.out.hG k h
              exact ⟨h1.1, h1.2.1, h1.2.2.1, h1.2.2.2.1, fun h => by omega⟩
            · exact ⟨by omega, by omega, by omega, fun hg => by have := (HS.out.hGL k hg).2.2.2; omega, fun h => by omega⟩))
          clear h8 hu8 hs8 hu7 hRL hF7 HS7 HS6 HO6
          go_wp2_with fail
          go_meet
          exact ⟨b', _, rfl, HS8⟩
      case rest =>
        clear HS a0 a1 a2
        obtain ⟨b, G, rfl, HS⟩ := hcut
        have a0 : wc.cell? ⟨a, 0, none⟩ = some (.int .u8 kd) := blk_cell HS.out.ha 0
        have a1 : wc.cell? ⟨a, 1, none⟩ = some (.int .i64 id) := blk_cell HS.out.ha 1
        have a2 : wc.cell? ⟨a, 2, none⟩ = some (.slice A x.length c) := blk_cell HS.out.ha 2
        go_upto_region 27 with fail
        generalize kd.tmod 8 = r
        by_cases r7 : r = 7
        · have z0 : (r == 0) = false := by rw [r7]; rfl
          have z1 : (r == 1) = false := by rw [r7]; rfl
          have z2 : (r == 2) = false := by rw [r7]; rfl
          have z6 : (r == 6) = false := by rw [r7]; rfl
          have z7 : (r == 7) = true := by rw [r7]; rfl
          clear r7
          obtain ⟨sh', m', q', e1, e2, e3⟩ : ∃ sh' m' q', sh' = sh ∧ m' = m ∧ q' = q := ⟨_, _, _, rfl, rfl, rfl⟩
          have hm' : m'.length ≤ 32 := by rw [e2]; exact hml
          have hq' : q'.length ≤ q.length + 1 := by rw [e3]; omega
          have HSN : Aside0 (sh' = false → m' = []) := ⟨by rw [e1, e2]; exact HSM.out⟩
          have HT5 : Aside0 (St w wc G GL b d a n sh' m' q' sh' m' q' Am cm Al cl kd id x A c) := ⟨by rw [e1, e2, e3]; exact HS.out⟩
          clear e1 e2 e3
          go_wp2_with fail
          refine (code_shown _ _ b n sh' m' q' HT5.out.hat (by omega) HSN.out).mono ?_
          rintro e w9 ⟨A9, c9, rfl, h9, hu⟩
          have HT9 := Aside0.mk (HT5.out.upd0 hu)
          have H9 := Aside0.mk h9
          have k1 : w9.cell? ⟨d, 1, none⟩ = some (.slice Am m'.length cm) := blk_cell HT9.out.hd 1
          have k2 : w9.cell? ⟨d, 2, none⟩ = some (.bool sh') := blk_cell HT9.out.hd 2
          have k3 : w9.cell? ⟨d, 3, none⟩ = some (.slice Al q'.length cl) := blk_cell HT9.out.hd 3
          have hss : (sh' != sh') = false := by simp
          have hql1 : q'.length ≤ 1000000 := by omega
          have HUC : Aside0 (Upd w9 w9.drew (fun _ => False)) := ⟨(Upd.refl _ _).drew⟩
          clear h9 hu HT5
          go_upto_region 44 with fail
          go_region_held3 (fun w' => w'.cell? ⟨d, 1, none⟩ = some (.slice Am m'.length cm) ∧ w'.cell? ⟨d, 2, none⟩ = some (.bool sh') ∧ w'.cell? ⟨d, 3, none⟩ = some (.slice Al q'.length cl)) (first | exact ⟨j1, j2, j3⟩ | exact ⟨k1, k2, k3⟩ | go_keep)
            (first
              | (go_at_call 15; with_reducible refine (SameU.same_calls A9 c9 m' Am cm m' _ (Kd.C_below H9.out (HUC.out.to_below (Nat.le_refl _) (fun _ h => h.elim))) (Kd.F_now (HT9.out.upd0 HUC.out).hm)).mono ?_; rw [show eqB m' m' = true by simp [eqB]]; rintro e w10 ⟨rfl, hq10⟩; have hu := Upd.of_q hq10; have HUN := Aside0.mk (HUC.out.step hu); clear HUC; have HUC := HUN; clear HUN; have j1 := cell_upd0 HUC.out k1; have j2 := cell_upd0 HUC.out k2; have j3 := cell_upd0 HUC.out k3; clear hq10 hu)
              | (go_at_call 17; with_reducible refine (waiting_calls _ _ b n sh' m' q' (HT9.out.upd0 HUC.out).hat hql1).mono ?_; rintro e w10 ⟨v10, rfl, hr10, hu⟩; obtain ⟨Aw, cw, rfl⟩ := Kd.R_slice hr10; have HRW := Aside0.mk (Kd.R_reads' hr10).2.2; have HUN := Aside0.mk (HUC.out.step hu); clear HUC; have HUC := HUN; clear HUN; have j1 := cell_upd0 HUC.out k1; have j2 := cell_upd0 HUC.out k2; have j3 := cell_upd0 HUC.out k3; clear hr10 hu)
              | (go_at_call 18; with_reducible refine (SameI.same_calls Aw cw q' Al cl q' _ HRW.out (Kd.R_reads' (HT9.out.upd0 HUC.out).hq).2.2).mono ?_; rw [show eqB q' q' = true by simp [eqB]]; rintro e w10 ⟨rfl, hq10⟩; have hu := Upd.of_q hq10; have HUN := Aside0.mk (HUC.out.step hu); clear HUC; have HUC := HUN; clear HUN; have j1 := cell_upd0 HUC.out k1; have j2 := cell_upd0 HUC.out k2; have j3 := cell_upd0 HUC.out k3; clear hq10 hu))
          all_goals
            go_wp2_with fail
            go_roundg g1
            case rel => exact ⟨j + 1, b, sh', m', q', rfl, by go_num, by omega, by omega, hm', by omega, HSN, ⟨(HT9.out.upd0 HUC.out).two⟩⟩
            case measure => omega
        by_cases r0 : r = 0
        · have z0 : (r == 0) = true := beq_iff_eq.mpr r0
          clear r0 r7
          obtain ⟨sh', m', q', hs⟩ : ∃ sh' m' q', (sh', m', q') = opS n (.show x) sh m q := ⟨_, _, _, rfl⟩
          obtain ⟨hm', hq'⟩ := opS_small hs hml hn2
          have HSN : Aside0 (sh' = false → m' = []) := ⟨opS_shown hs HSM.out⟩
          have HE := Aside0.mk hs
          clear hs
          obtain ⟨wk, f, hk⟩ : ∃ wk f, (wk, f) = showR n x q := ⟨_, _, rfl⟩
          have HK := Aside0.mk hk
          have hff : (f != f) = false := by simp
          clear hk
          go_wp2_with fail
          refine (BdOp2.code_show wc G b n sh sh' m m' q q' wk f A c x HS.out.hat (Kd.F_mono HS.out.hx (fun k hk => by have := (HS.out.hG b HS.out.hat.1).1; omega)) hn2 HE.out HK.out).mono ?_
          rintro e w4 ⟨A4, c4, rfl, hC4, h4, hu⟩
          have HC4 := Aside0.mk hC4
          clear hC4
          have HS4 := Aside0.mk (HS.out.code h4 hu)
          have hb1 := HS4.out.ha
          have hb2 := HS4.out.hd
          have c1 : w4.cell? ⟨a, 1, none⟩ = some (.int .i64 id) := blk_cell hb1 1
          have c2 : w4.cell? ⟨a, 2, none⟩ = some (.slice A x.length c) := blk_cell hb1 2
          have d0 : w4.cell? ⟨d, 0, none⟩ = some (.int .i64 n) := blk_cell hb2 0
          have d1 : w4.cell? ⟨d, 1, none⟩ = some (.slice Am m.length cm) := blk_cell hb2 1
          have d2 : w4.cell? ⟨d, 2, none⟩ = some (.bool sh) := blk_cell hb2 2
          have d3 : w4.cell? ⟨d, 3, none⟩ = some (.slice Al q.length cl) := blk_cell hb2 3
          clear h4 hu hb1 hb2 HS a0 a1 a2
          go_wp2_with fail
          refine (BdOp2.doc_show w4 _ GL n Am cm Al cl sh sh' m m' q q' wk f A c x HS4.out.hm HS4.out.hmc HS4.out.hq HS4.out.hx hAc HE.out HK.out).mono ?_
          rintro e w5 ⟨v5, A5, c5, rfl, ⟨Am5, cm5, Al5, cl5, rfl, hF5, hc5, hR5⟩, hC5, hu⟩
          have HC5 := Aside0.mk hC5
          have HC6 := Aside0.mk (Kd.C_below HC4.out (hu.to_below (Nat.le_refl _) (fun _ h => h.elim)))
          clear hC5 HC4
          have HS5 := Aside0.mk (HS4.out.upd0 hu)
          have HL5 := Aside0.mk (St.rows HS5.out HS4.out)
          have hb5 := HS5.out.hd
          clear HS4 c1 c2 d0 d1 d2 d3
          have HF5 := Aside0.mk hF5
          have HR5 := Aside0.mk hR5
          clear hb5 hu hF5 hR5
          go_wp2_with fail
          obtain ⟨W6, hW6⟩ : ∃ W6, W6 = w5.alloc (.cells #[.int .i64 n, .slice Am5 m'.length cm5, .bool sh', .slice Al5 q'.length cl5] 50) := ⟨_, rfl⟩
          rw [← hW6]
          obtain ⟨nx, hnx⟩ : ∃ nx, nx = w5.heap.size := ⟨_, rfl⟩
          rw [← hnx]
          have hu6 : Upd w5 W6 (fun _ => False) := by rw [hW6]; exact (Upd.refl _ _).alloc _
          have HN6 : Aside0 (W6.heap[nx]? = some (.cells #[.int .i64 n, .slice Am5 m'.length cm5, .bool sh', .slice Al5 q'.length cl5] 50 (0, 0))) := ⟨by rw [hW6, hnx]; exact heap_alloc_new _ _⟩
          have HS6 := Aside0.mk (HS5.out.upd0 hu6)
          have HF6 := Aside0.mk (Kd.F_kept HF5.out hu6.kept (fun _ _ h => h))
          have HR6 := Aside0.mk (R_upd0 HR5.out hu6)
          have HU6 := Aside0.mk hu6
          have hnw : w5.heap.size ≤ nx := by omega
          clear hW6 hnx hu6 HS5 HF5 HR5
          refine (SameI.same_calls A4 c4 wk A5 c5 wk W6 (Kd.C_below HC6.out (HU6.out.to_below (Nat.le_refl _) (fun _ h => h.elim))) (Kd.C_below HC5.out (HU6.out.to_below (Nat.le_refl _) (fun _ h => h.elim)))).mono ?_
          rw [show eqB wk wk = true by simp [eqB]]
          rintro e w7 ⟨rfl, hq7⟩
          have hu := Upd.of_q hq7
          clear hq7 HC5 HC6
          have HS7 := Aside0.mk (HS6.out.upd0 hu)
          have HF7 := Aside0.mk (Kd.F_kept HF6.out hu.kept (fun _ _ h => h))
          have HR7 := Aside0.mk (R_upd0 HR6.out hu)
          have hb7 := (hu.block (blk_lt HN6.out) (fun h => h)).trans HN6.out
          have hb8 := HS7.out.hd
          have n0 : w7.cell? ⟨nx, 0, none⟩ = some (.int .i64 n) := blk_cell hb7 0
          have n1 : w7.cell? ⟨nx, 1, none⟩ = some (.slice Am5 m'.length cm5) := blk_cell hb7 1
          have n2 : w7.cell? ⟨nx, 2, none⟩ = some (.bool sh') := blk_cell hb7 2
          have n3 : w7.cell? ⟨nx, 3, none⟩ = some (.slice Al5 q'.length cl5) := blk_cell hb7 3
          have d0 : w7.cell? ⟨d, 0, none⟩ = some (.int .i64 n) := blk_cell hb8 0
          have d1 : w7.cell? ⟨d, 1, none⟩ = some (.slice Am m.length cm) := blk_cell hb8 1
          have d2 : w7.cell? ⟨d, 2, none⟩ = some (.bool sh) := blk_cell hb8 2
          have d3 : w7.cell? ⟨d, 3, none⟩ = some (.slice Al q.length cl) := blk_cell hb8 3
          have f0 := blk_frozen hb8 0
          have f1 := blk_frozen hb8 1
          have f2 := blk_frozen hb8 2
          have f3 := blk_frozen hb8 3
          clear hu hb7 hb8 HS6 HF6 HR6 HN6
          go_wp2_with fail
          have HT5 := Aside0.mk (HS7.out.put (sh' := sh') HF7.out hc5 HR7.out HL5.out)
          clear n0 n1 n2 n3 d0 d1 d2 d3 f0 f1 f2 f3 HS7 HF7 HR7
          refine (code_shown _ _ b n sh' m' q' HT5.out.hat (by omega) HSN.out).mono ?_
          rintro e w9 ⟨A9, c9, rfl, h9, hu⟩
          have HT9 := Aside0.mk (HT5.out.upd0 hu)
          have H9 := Aside0.mk h9
          have k1 : w9.cell? ⟨d, 1, none⟩ = some (.slice Am5 m'.length cm5) := blk_cell HT9.out.hd 1
          have k2 : w9.cell? ⟨d, 2, none⟩ = some (.bool sh') := blk_cell HT9.out.hd 2
          have k3 : w9.cell? ⟨d, 3, none⟩ = some (.slice Al5 q'.length cl5) := blk_cell HT9.out.hd 3
          have hss : (sh' != sh') = false := by simp
          have hql1 : q'.length ≤ 1000000 := by omega
          have HUC : Aside0 (Upd w9 w9.drew (fun _ => False)) := ⟨(Upd.refl _ _).drew⟩
          clear h9 hu HT5
          go_upto_region 44 with fail
          go_region_held3 (fun w' => w'.cell? ⟨d, 1, none⟩ = some (.slice Am5 m'.length cm5) ∧ w'.cell? ⟨d, 2, none⟩ = some (.bool sh') ∧ w'.cell? ⟨d, 3, none⟩ = some (.slice Al5 q'.length cl5)) (first | exact ⟨j1, j2, j3⟩ | exact ⟨k1, k2, k3⟩ | go_keep)
            (first
              | (go_at_call 15; with_reducible refine (SameU.same_calls A9 c9 m' Am5 cm5 m' _ (Kd.C_below H9.out (HUC.out.to_below (Nat.le_refl _) (fun _ h => h.elim))) (Kd.F_now (HT9.out.upd0 HUC.out).hm)).mono ?_; rw [show eqB m' m' = true by simp [eqB]]; rintro e w10 ⟨rfl, hq10⟩; have hu := Upd.of_q hq10; have HUN := Aside0.mk (HUC.out.step hu); clear HUC; have HUC := HUN; clear HUN; have j1 := cell_upd0 HUC.out k1; have j2 := cell_upd0 HUC.out k2; have j3 := cell_upd0 HUC.out k3; clear hq10 hu)
              | (go_at_call 17; with_reducible refine (waiting_calls _ _ b n sh' m' q' (HT9.out.upd0 HUC.out).hat hql1).mono ?_; rintro e w10 ⟨v10, rfl, hr10, hu⟩; obtain ⟨Aw, cw, rfl⟩ := Kd.R_slice hr10; have HRW := Aside0.mk (Kd.R_reads' hr10).2.2; have HUN := Aside0.mk (HUC.out.step hu); clear HUC; have HUC := HUN; clear HUN; have j1 := cell_upd0 HUC.out k1; have j2 := cell_upd0 HUC.out k2; have j3 := cell_upd0 HUC.out k3; clear hr10 hu)
              | (go_at_call 18; with_reducible refine (SameI.same_calls Aw cw q' Al5 cl5 q' _ HRW.out (Kd.R_reads' (HT9.out.upd0 HUC.out).hq).2.2).mono ?_; rw [show eqB q' q' = true by simp [eqB]]; rintro e w10 ⟨rfl, hq10⟩; have hu := Upd.of_q hq10; have HUN := Aside0.mk (HUC.out.step hu); clear HUC; have HUC := HUN; clear HUN; have j1 := cell_upd0 HUC.out k1; have j2 := cell_upd0 HUC.out k2; have j3 := cell_upd0 HUC.out k3; clear hq10 hu))
          all_goals
            go_wp2_with fail
            go_roundg g1
            case rel => exact ⟨j + 1, b, sh', m', q', rfl, by go_num, by omega, by omega, hm', by omega, HSN, ⟨(HT9.out.upd0 HUC.out).two⟩⟩
            case measure => omega
        have z0 : (r == 0) = false := beq_eq_false_iff_ne.mpr r0
        by_cases r1 : r = 1
        · have z1 : (r == 1) = true := beq_iff_eq.mpr r1
          clear r0 r1 r7
          obtain ⟨sh', m', q', hs⟩ : ∃ sh' m' q', (sh', m', q') = opS n (.show x) sh m q := ⟨_, _, _, rfl⟩
          obtain ⟨hm', hq'⟩ := opS_small hs hml hn2
          have HSN : Aside0 (sh' = false → m' = []) := ⟨opS_shown hs HSM.out⟩
          have HE := Aside0.mk hs
          clear hs
          obtain ⟨wk, f, hk⟩ : ∃ wk f, (wk, f) = showR n x q := ⟨_, _, rfl⟩
          have HK := Aside0.mk hk
          have hff : (f != f) = false := by simp
          clear hk
          go_wp2_with fail
          refine (BdOp2.code_show wc G b n sh sh' m m' q q' wk f A c x HS.out.hat (Kd.F_mono HS.out.hx (fun k hk => by have := (HS.out.hG b HS.out.hat.1).1; omega)) hn2 HE.out HK.out).mono ?_
          rintro e w4 ⟨A4, c4, rfl, hC4, h4, hu⟩
          have HC4 := Aside0.mk hC4
          clear hC4
          have HS4 := Aside0.mk (HS.out.code h4 hu)
          have hb1 := HS4.out.ha
          have hb2 := HS4.out.hd
          have c1 : w4.cell? ⟨a, 1, none⟩ = some (.int .i64 id) := blk_cell hb1 1
          have c2 : w4.cell? ⟨a, 2, none⟩ = some (.slice A x.length c) := blk_cell hb1 2
          have d0 : w4.cell? ⟨d, 0, none⟩ = some (.int .i64 n) := blk_cell hb2 0
          have d1 : w4.cell? ⟨d, 1, none⟩ = some (.slice Am m.length cm) := blk_cell hb2 1
          have d2 : w4.cell? ⟨d, 2, none⟩ = some (.bool sh) := blk_cell hb2 2
          have d3 : w4.cell? ⟨d, 3, none⟩ = some (.slice Al q.length cl) := blk_cell hb2 3
          clear h4 hu hb1 hb2 HS a0 a1 a2
          go_wp2_with fail
          refine (BdOp2.doc_show w4 _ GL n Am cm Al cl sh sh' m m' q q' wk f A c x HS4.out.hm HS4.out.hmc HS4.out.hq HS4.out.hx hAc HE.out HK.out).mono ?_
          rintro e w5 ⟨v5, A5, c5, rfl, ⟨Am5, cm5, Al5, cl5, rfl, hF5, hc5, hR5⟩, hC5, hu⟩
          have HC5 := Aside0.mk hC5
          have HC6 := Aside0.mk (Kd.C_below HC4.out (hu.to_below (Nat.le_refl _) (fun _ h => h.elim)))
          clear hC5 HC4
          have HS5 := Aside0.mk (HS4.out.upd0 hu)
          have HL5 := Aside0.mk (St.rows HS5.out HS4.out)
          have hb5 := HS5.out.hd
          clear HS4 c1 c2 d0 d1 d2 d3
          have HF5 := Aside0.mk hF5
          have HR5 := Aside0.mk hR5
          clear hb5 hu hF5 hR5
          go_wp2_with fail
          obtain ⟨W6, hW6⟩ : ∃ W6, W6 = w5.alloc (.cells #[.int .i64 n, .slice Am5 m'.length cm5, .bool sh', .slice Al5 q'.length cl5] 50) := ⟨_, rfl⟩
          rw [← hW6]
          obtain ⟨nx, hnx⟩ : ∃ nx, nx = w5.heap.size := ⟨_, rfl⟩
          rw [← hnx]
          have hu6 : Upd w5 W6 (fun _ => False) := by rw [hW6]; exact (Upd.refl _ _).alloc _
          have HN6 : Aside0 (W6.heap[nx]? = some (.cells #[.int .i64 n, .slice Am5 m'.length cm5, .bool sh', .slice Al5 q'.length cl5] 50 (0, 0))) := ⟨by rw [hW6, hnx]; exact heap_alloc_new _ _⟩
          have HS6 := Aside0.mk (HS5.out.upd0 hu6)
          have HF6 := Aside0.mk (Kd.F_kept HF5.out hu6.kept (fun _ _ h => h))
          have HR6 := Aside0.mk (R_upd0 HR5.out hu6)
          have HU6 := Aside0.mk hu6
          have hnw : w5.heap.size ≤ nx := by omega
          clear hW6 hnx hu6 HS5 HF5 HR5
          refine (SameI.same_calls A4 c4 wk A5 c5 wk W6 (Kd.C_below HC6.out (HU6.out.to_below (Nat.le_refl _) (fun _ h => h.elim))) (Kd.C_below HC5.out (HU6.out.to_below (Nat.le_refl _) (fun _ h => h.elim)))).mono ?_
          rw [show eqB wk wk = true by simp [eqB]]
          rintro e w7 ⟨rfl, hq7⟩
          have hu := Upd.of_q hq7
          clear hq7 HC5 HC6
          have HS7 := Aside0.mk (HS6.out.upd0 hu)
          have HF7 := Aside0.mk (Kd.F_kept HF6.out hu.kept (fun _ _ h => h))
          have HR7 := Aside0.mk (R_upd0 HR6.out hu)
          have hb7 := (hu.block (blk_lt HN6.out) (fun h => h)).trans HN6.out
          have hb8 := HS7.out.hd
          have n0 : w7.cell? ⟨nx, 0, none⟩ = some (.int .i64 n) := blk_cell hb7 0
          have n1 : w7.cell? ⟨nx, 1, none⟩ = some (.slice Am5 m'.length cm5) := blk_cell hb7 1
          have n2 : w7.cell? ⟨nx, 2, none⟩ = some (.bool sh') := blk_cell hb7 2
          have n3 : w7.cell? ⟨nx, 3, none⟩ = some (.slice Al5 q'.length cl5) := blk_cell hb7 3
          have d0 : w7.cell? ⟨d, 0, none⟩ = some (.int .i64 n) := blk_cell hb8 0
          have d1 : w7.cell? ⟨d, 1, none⟩ = some (.slice Am m.length cm) := blk_cell hb8 1
          have d2 : w7.cell? ⟨d, 2, none⟩ = some (.bool sh) := blk_cell hb8 2
          have d3 : w7.cell? ⟨d, 3, none⟩ = some (.slice Al q.length cl) := blk_cell hb8 3
          have f0 := blk_frozen hb8 0
          have f1 := blk_frozen hb8 1
          have f2 := blk_frozen hb8 2
          have f3 := blk_frozen hb8 3
          clear hu hb7 hb8 HS6 HF6 HR6 HN6
          go_wp2_with fail
          have HT5 := Aside0.mk (HS7.out.put (sh' := sh') HF7.out hc5 HR7.out HL5.out)
          clear n0 n1 n2 n3 d0 d1 d2 d3 f0 f1 f2 f3 HS7 HF7 HR7
          refine (code_shown _ _ b n sh' m' q' HT5.out.hat (by omega) HSN.out).mono ?_
          rintro e w9 ⟨A9, c9, rfl, h9, hu⟩
          have HT9 := Aside0.mk (HT5.out.upd0 hu)
          have H9 := Aside0.mk h9
          have k1 : w9.cell? ⟨d, 1, none⟩ = some (.slice Am5 m'.length cm5) := blk_cell HT9.out.hd 1
          have k2 : w9.cell? ⟨d, 2, none⟩ = some (.bool sh') := blk_cell HT9.out.hd 2
          have k3 : w9.cell? ⟨d, 3, none⟩ = some (.slice Al5 q'.length cl5) := blk_cell HT9.out.hd 3
          have hss : (sh' != sh') = false := by simp
          have hql1 : q'.length ≤ 1000000 := by omega
          have HUC : Aside0 (Upd w9 w9.drew (fun _ => False)) := ⟨(Upd.refl _ _).drew⟩
          clear h9 hu HT5
          go_upto_region 44 with fail
          go_region_held3 (fun w' => w'.cell? ⟨d, 1, none⟩ = some (.slice Am5 m'.length cm5) ∧ w'.cell? ⟨d, 2, none⟩ = some (.bool sh') ∧ w'.cell? ⟨d, 3, none⟩ = some (.slice Al5 q'.length cl5)) (first | exact ⟨j1, j2, j3⟩ | exact ⟨k1, k2, k3⟩ | go_keep)
            (first
              | (go_at_call 15; with_reducible refine (SameU.same_calls A9 c9 m' Am5 cm5 m' _ (Kd.C_below H9.out (HUC.out.to_below (Nat.le_refl _) (fun _ h => h.elim))) (Kd.F_now (HT9.out.upd0 HUC.out).hm)).mono ?_; rw [show eqB m' m' = true by simp [eqB]]; rintro e w10 ⟨rfl, hq10⟩; have hu := Upd.of_q hq10; have HUN := Aside0.mk (HUC.out.step hu); clear HUC; have HUC := HUN; clear HUN; have j1 := cell_upd0 HUC.out k1; have j2 := cell_upd0 HUC.out k2; have j3 := cell_upd0 HUC.out k3; clear hq10 hu)
              | (go_at_call 17; with_reducible refine (waiting_calls _ _ b n sh' m' q' (HT9.out.upd0 HUC.out).hat hql1).mono ?_; rintro e w10 ⟨v10, rfl, hr10, hu⟩; obtain ⟨Aw, cw, rfl⟩ := Kd.R_slice hr10; have HRW := Aside0.mk (Kd.R_reads' hr10).2.2; have HUN := Aside0.mk (HUC.out.step hu); clear HUC; have HUC := HUN; clear HUN; have j1 := cell_upd0 HUC.out k1; have j2 := cell_upd0 HUC.out k2; have j3 := cell_upd0 HUC.out k3; clear hr10 hu)
              | (go_at_call 18; with_reducible refine (SameI.same_calls Aw cw q' Al5 cl5 q' _ HRW.out (Kd.R_reads' (HT9.out.upd0 HUC.out).hq).2.2).mono ?_; rw [show eqB q' q' = true by simp [eqB]]; rintro e w10 ⟨rfl, hq10⟩; have hu := Upd.of_q hq10; have HUN := Aside0.mk (HUC.out.step hu); clear HUC; have HUC := HUN; clear HUN; have j1 := cell_upd0 HUC.out k1; have j2 := cell_upd0 HUC.out k2; have j3 := cell_upd0 HUC.out k3; clear hq10 hu))
          all_goals
            go_wp2_with fail
            go_roundg g1
            case rel => exact ⟨j + 1, b, sh', m', q', rfl, by go_num, by omega, by omega, hm', by omega, HSN, ⟨(HT9.out.upd0 HUC.out).two⟩⟩
            case measure => omega
        have z1 : (r == 1) = false := beq_eq_false_iff_ne.mpr r1
        by_cases r2 : r = 2
        · have z2 : (r == 2) = true := beq_iff_eq.mpr r2
          clear r0 r1 r2 r7
          obtain ⟨sh', m', q', hs⟩ : ∃ sh' m' q', (sh', m', q') = opS n (.clear) sh m q := ⟨_, _, _, rfl⟩
          obtain ⟨hm', hq'⟩ := opS_small hs hml hn2
          have HSN : Aside0 (sh' = false → m' = []) := ⟨opS_shown hs HSM.out⟩
          have HE := Aside0.mk hs
          clear hs
          go_wp2_with fail
          refine (BdOp.code_clear wc G b n sh sh' m m' q q' HS.out.hat HE.out).mono ?_
          rintro e w4 ⟨v4, rfl, h4, hu⟩
          have HS4 := Aside0.mk (HS.out.code h4 hu)
          have hb1 := HS4.out.ha
          have hb2 := HS4.out.hd
          have c1 : w4.cell? ⟨a, 1, none⟩ = some (.int .i64 id) := blk_cell hb1 1
          have c2 : w4.cell? ⟨a, 2, none⟩ = some (.slice A x.length c) := blk_cell hb1 2
          have d0 : w4.cell? ⟨d, 0, none⟩ = some (.int .i64 n) := blk_cell hb2 0
          have d1 : w4.cell? ⟨d, 1, none⟩ = some (.slice Am m.length cm) := blk_cell hb2 1
          have d2 : w4.cell? ⟨d, 2, none⟩ = some (.bool sh) := blk_cell hb2 2
          have d3 : w4.cell? ⟨d, 3, none⟩ = some (.slice Al q.length cl) := blk_cell hb2 3
          clear h4 hu hb1 hb2 HS a0 a1 a2
          go_wp2_with fail
          refine (BdOp.doc_clear w4 (fun k => k < w.heap.size) GL n Am cm Al cl sh sh' m m' q q' HS4.out.hq HE.out).mono ?_
          rintro e w7 ⟨v5, rfl, ⟨Am5, cm5, Al5, cl5, rfl, hF5, hc5, hR5⟩, hu⟩
          have HS7 := Aside0.mk (HS4.out.upd0 hu)
          have HL5 := Aside0.mk (St.rows HS7.out HS4.out)
          have HF7 := Aside0.mk hF5
          have HR7 := Aside0.mk hR5
          have hb8 := HS7.out.hd
          clear d0 d1 d2 d3 c1 c2 hF5 hR5 HS4
          have d0 : w7.cell? ⟨d, 0, none⟩ = some (.int .i64 n) := blk_cell hb8 0
          have d1 : w7.cell? ⟨d, 1, none⟩ = some (.slice Am m.length cm) := blk_cell hb8 1
          have d2 : w7.cell? ⟨d, 2, none⟩ = some (.bool sh) := blk_cell hb8 2
          have d3 : w7.cell? ⟨d, 3, none⟩ = some (.slice Al q.length cl) := blk_cell hb8 3
          have f0 := blk_frozen hb8 0
          have f1 := blk_frozen hb8 1
          have f2 := blk_frozen hb8 2
          have f3 := blk_frozen hb8 3
          clear hu hb8
          go_wp2_with fail
          have HT5 := Aside0.mk (HS7.out.put (sh' := sh') HF7.out hc5 HR7.out HL5.out)
          clear d0 d1 d2 d3 f0 f1 f2 f3 HS7 HF7 HR7
          refine (code_shown _ _ b n sh' m' q' HT5.out.hat (by omega) HSN.out).mono ?_
          rintro e w9 ⟨A9, c9, rfl, h9, hu⟩
          have HT9 := Aside0.mk (HT5.out.upd0 hu)
          have H9 := Aside0.mk h9
          have k1 : w9.cell? ⟨d, 1, none⟩ = some (.slice Am5 m'.length cm5) := blk_cell HT9.out.hd 1
          have k2 : w9.cell? ⟨d, 2, none⟩ = some (.bool sh') := blk_cell HT9.out.hd 2
          have k3 : w9.cell? ⟨d, 3, none⟩ = some (.slice Al5 q'.length cl5) := blk_cell HT9.out.hd 3
          have hss : (sh' != sh') = false := by simp
          have hql1 : q'.length ≤ 1000000 := by omega
          have HUC : Aside0 (Upd w9 w9.drew (fun _ => False)) := ⟨(Upd.refl _ _).drew⟩
          clear h9 hu HT5
          go_upto_region 44 with fail
          go_region_held3 (fun w' => w'.cell? ⟨d, 1, none⟩ = some (.slice Am5 m'.length cm5) ∧ w'.cell? ⟨d, 2, none⟩ = some (.bool sh') ∧ w'.cell? ⟨d, 3, none⟩ = some (.slice Al5 q'.length cl5)) (first | exact ⟨j1, j2, j3⟩ | exact ⟨k1, k2, k3⟩ | go_keep)
            (first
              | (go_at_call 15; with_reducible refine (SameU.same_calls A9 c9 m' Am5 cm5 m' _ (Kd.C_below H9.out (HUC.out.to_below (Nat.le_refl _) (fun _ h => h.elim))) (Kd.F_now (HT9.out.upd0 HUC.out).hm)).mono ?_; rw [show eqB m' m' = true by simp [eqB]]; rintro e w10 ⟨rfl, hq10⟩; have hu := Upd.of_q hq10; have HUN := Aside0.mk (HUC.out.step hu); clear HUC; have HUC := HUN; clear HUN; have j1 := cell_upd0 HUC.out k1; have j2 := cell_upd0 HUC.out k2; have j3 := cell_upd0 HUC.out k3; clear hq10 hu)
              | (go_at_call 17; with_reducible refine (waiting_calls _ _ b n sh' m' q' (HT9.out.upd0 HUC.out).hat hql1).mono ?_; rintro e w10 ⟨v10, rfl, hr10, hu⟩; obtain ⟨Aw, cw, rfl⟩ := Kd.R_slice hr10; have HRW := Aside0.mk (Kd.R_reads' hr10).2.2; have HUN := Aside0.mk (HUC.out.step hu); clear HUC; have HUC := HUN; clear HUN; have j1 := cell_upd0 HUC.out k1; have j2 := cell_upd0 HUC.out k2; have j3 := cell_upd0 HUC.out k3; clear hr10 hu)
              | (go_at_call 18; with_reducible refine (SameI.same_calls Aw cw q' Al5 cl5 q' _ HRW.out (Kd.R_reads' (HT9.out.upd0 HUC.out).hq).2.2).mono ?_; rw [show eqB q' q' = true by simp [eqB]]; rintro e w10 ⟨rfl, hq10⟩; have hu := Upd.of_q hq10; have HUN := Aside0.mk (HUC.out.step hu); clear HUC; have HUC := HUN; clear HUN; have j1 := cell_upd0 HUC.out k1; have j2 := cell_upd0 HUC.out k2; have j3 := cell_upd0 HUC.out k3; clear hq10 hu))
          all_goals
            go_wp2_with fail
            go_roundg g1
            case rel => exact ⟨j + 1, b, sh', m', q', rfl, by go_num, by omega, by omega, hm', by omega, HSN, ⟨(HT9.out.upd0 HUC.out).two⟩⟩
            case measure => omega
        have z2 : (r == 2) = false := beq_eq_false_iff_ne.mpr r2
        by_cases r6 : r = 6
        · have z6 : (r == 6) = true := beq_iff_eq.mpr r6
          clear r0 r1 r2 r6 r7
          obtain ⟨sh', m', q', hs⟩ : ∃ sh' m' q', (sh', m', q') = opS n (.drop id) sh m q := ⟨_, _, _, rfl⟩
          obtain ⟨hm', hq'⟩ := opS_small hs hml hn2
          have HSN : Aside0 (sh' = false → m' = []) := ⟨opS_shown hs HSM.out⟩
          have HE := Aside0.mk hs
          clear hs
          obtain ⟨t, ht⟩ : ∃ t, t = hasB q id := ⟨_, rfl⟩
          have HTT := Aside0.mk ht
          have htt : (t != t) = false := by simp
          have hb2 := HS.out.hd
          have d0 : wc.cell? ⟨d, 0, none⟩ = some (.int .i64 n) := blk_cell hb2 0
          have d1 : wc.cell? ⟨d, 1, none⟩ = some (.slice Am m.length cm) := blk_cell hb2 1
          have d2 : wc.cell? ⟨d, 2, none⟩ = some (.bool sh) := blk_cell hb2 2
          have d3 : wc.cell? ⟨d, 3, none⟩ = some (.slice Al q.length cl) := blk_cell hb2 3
          clear ht hb2
          go_wp2_with fail
          refine (BdOp2.doc_drop wc _ GL n Am cm Al cl sh sh' m m' q q' id t HS.out.hm HS.out.hmc HS.out.hq (by omega) HE.out HTT.out).mono ?_
          rintro e w5 ⟨v5, rfl, ⟨Am5, cm5, Al5, cl5, rfl, hF5, hc5, hR5⟩, hu⟩
          have HS5 := Aside0.mk (HS.out.upd0 hu)
          have HL5 := Aside0.mk (St.rows HS5.out HS.out)
          have HGC : Aside0 (∀ k, G k → k < wc.heap.size) := ⟨fun k hk => (HS.out.hG k hk).2.2.2.2⟩
          have hz5 := hu.size
          have hb5 := HS5.out.ha
          have haL : a < w5.heap.size := blk_lt hb5
          have g1' : w5.cell? ⟨a, 1, none⟩ = some (.int .i64 id) := blk_cell hb5 1
          clear d0 d1 d2 d3 a0 a1 a2 HS
          have HF5 := Aside0.mk hF5
          have HR5 := Aside0.mk hR5
          clear hb5 hu hF5 hR5
          go_wp2_with fail
          obtain ⟨W6, hW6⟩ : ∃ W6, W6 = w5.alloc (.cells #[.int .i64 n, .slice Am5 m'.length cm5, .bool sh', .slice Al5 q'.length cl5] 50) := ⟨_, rfl⟩
          rw [← hW6]
          obtain ⟨nx, hnx⟩ : ∃ nx, nx = w5.heap.size := ⟨_, rfl⟩
          rw [← hnx]
          have hu6 : Upd w5 W6 (fun _ => False) := by rw [hW6]; exact (Upd.refl _ _).alloc _
          have HN6 : Aside0 (W6.heap[nx]? = some (.cells #[.int .i64 n, .slice Am5 m'.length cm5, .bool sh', .slice Al5 q'.length cl5] 50 (0, 0))) := ⟨by rw [hW6, hnx]; exact heap_alloc_new _ _⟩
          have HS6 := Aside0.mk (HS5.out.upd0 hu6)
          have HF6 := Aside0.mk (Kd.F_kept HF5.out hu6.kept (fun _ _ h => h))
          have HR6 := Aside0.mk (R_upd0 HR5.out hu6)
          have HU6 := Aside0.mk hu6
          have hnw : w5.heap.size ≤ nx := by omega
          clear hW6 hnx hu6 HS5 HF5 HR5
          clear g1'
          refine (BdOp2.code_drop W6 G b n sh sh' m m' q q' id t HS6.out.hat (by omega) HE.out HTT.out).mono ?_
          rintro e w7 ⟨rfl, h7, hu⟩
          have HS7 := Aside0.mk (HS6.out.code h7 hu)
          have HF7 := Aside0.mk (Kd.F_kept HF6.out hu.kept (fun k hk h => by have := (HS6.out.hG k h).1; omega))
          have HR7 := Aside0.mk (R_upd HR6.out hu (fun k hk _ h => (HL5.out k hk).2.2.2 h))
          have HL7 : Aside0 (∀ k, ((GL k ∨ wc.heap.size ≤ k) ∧ k < W6.heap.size) → w.heap.size ≤ k ∧ k ≠ d ∧ k ≠ a ∧ ¬ ((G k ∨ W6.heap.size ≤ k) ∧ k < w7.heap.size)) := ⟨fun k hk => by
            have h1 := HL5.out k hk.1
            exact ⟨h1.1, h1.2.1, h1.2.2.1, fun h => h.1.elim h1.2.2.2 (fun e => by have := hk.2; omega)⟩⟩
          have hb7 := (hu.block (blk_lt HN6.out) (fun h => by have := HGC.out _ h; omega)).trans HN6.out
          have hb8 := HS7.out.hd
          clear HL5
          have HL5 := HL7
          clear HL7 h7
          have n0 : w7.cell? ⟨nx, 0, none⟩ = some (.int .i64 n) := blk_cell hb7 0
          have n1 : w7.cell? ⟨nx, 1, none⟩ = some (.slice Am5 m'.length cm5) := blk_cell hb7 1
          have n2 : w7.cell? ⟨nx, 2, none⟩ = some (.bool sh') := blk_cell hb7 2
          have n3 : w7.cell? ⟨nx, 3, none⟩ = some (.slice Al5 q'.length cl5) := blk_cell hb7 3
          have d0 : w7.cell? ⟨d, 0, none⟩ = some (.int .i64 n) := blk_cell hb8 0
          have d1 : w7.cell? ⟨d, 1, none⟩ = some (.slice Am m.length cm) := blk_cell hb8 1
          have d2 : w7.cell? ⟨d, 2, none⟩ = some (.bool sh) := blk_cell hb8 2
          have d3 : w7.cell? ⟨d, 3, none⟩ = some (.slice Al q.length cl) := blk_cell hb8 3
          have f0 := blk_frozen hb8 0
          have f1 := blk_frozen hb8 1
          have f2 := blk_frozen hb8 2
          have f3 := blk_frozen hb8 3
          clear hu hb7 hb8 HS6 HF6 HR6 HN6
          go_wp2_with fail
          have HT5 := Aside0.mk (HS7.out.put (sh' := sh') HF7.out hc5 HR7.out HL5.out)
          clear n0 n1 n2 n3 d0 d1 d2 d3 f0 f1 f2 f3 HS7 HF7 HR7
          refine (code_shown _ _ b n sh' m' q' HT5.out.hat (by omega) HSN.out).mono ?_
          rintro e w9 ⟨A9, c9, rfl, h9, hu⟩
          have HT9 := Aside0.mk (HT5.out.upd0 hu)
          have H9 := Aside0.mk h9
          have k1 : w9.cell? ⟨d, 1, none⟩ = some (.slice Am5 m'.length cm5) := blk_cell HT9.out.hd 1
          have k2 : w9.cell? ⟨d, 2, none⟩ = some (.bool sh') := blk_cell HT9.out.hd 2
          have k3 : w9.cell? ⟨d, 3, none⟩ = some (.slice Al5 q'.length cl5) := blk_cell HT9.out.hd 3
          have hss : (sh' != sh') = false := by simp
          have hql1 : q'.length ≤ 1000000 := by omega
          have HUC : Aside0 (Upd w9 w9.drew (fun _ => False)) := ⟨(Upd.refl _ _).drew⟩
          clear h9 hu HT5
          go_upto_region 44 with fail
          go_region_held3 (fun w' => w'.cell? ⟨d, 1, none⟩ = some (.slice Am5 m'.length cm5) ∧ w'.cell? ⟨d, 2, none⟩ = some (.bool sh') ∧ w'.cell? ⟨d, 3, none⟩ = some (.slice Al5 q'.length cl5)) (first | exact ⟨j1, j2, j3⟩ | exact ⟨k1, k2, k3⟩ | go_keep)
            (first
              | (go_at_call 15; with_reducible refine (SameU.same_calls A9 c9 m' Am5 cm5 m' _ (Kd.C_below H9.out (HUC.out.to_below (Nat.le_refl _) (fun _ h => h.elim))) (Kd.F_now (HT9.out.upd0 HUC.out).hm)).mono ?_; rw [show eqB m' m' = true by simp [eqB]]; rintro e w10 ⟨rfl, hq10⟩; have hu := Upd.of_q hq10; have HUN := Aside0.mk (HUC.out.step hu); clear HUC; have HUC := HUN; clear HUN; have j1 := cell_upd0 HUC.out k1; have j2 := cell_upd0 HUC.out k2; have j3 := cell_upd0 HUC.out k3; clear hq10 hu)
              | (go_at_call 17; with_reducible refine (waiting_calls _ _ b n sh' m' q' (HT9.out.upd0 HUC.out).hat hql1).mono ?_; rintro e w10 ⟨v10, rfl, hr10, hu⟩; obtain ⟨Aw, cw, rfl⟩ := Kd.R_slice hr10; have HRW := Aside0.mk (Kd.R_reads' hr10).2.2; have HUN := Aside0.mk (HUC.out.step hu); clear HUC; have HUC := HUN; clear HUN; have j1 := cell_upd0 HUC.out k1; have j2 := cell_upd0 HUC.out k2; have j3 := cell_upd0 HUC.out k3; clear hr10 hu)
              | (go_at_call 18; with_reducible refine (SameI.same_calls Aw cw q' Al5 cl5 q' _ HRW.out (Kd.R_reads' (HT9.out.upd0 HUC.out).hq).2.2).mono ?_; rw [show eqB q' q' = true by simp [eqB]]; rintro e w10 ⟨rfl, hq10⟩; have hu := Upd.of_q hq10; have HUN := Aside0.mk (HUC.out.step hu); clear HUC; have HUC := HUN; clear HUN; have j1 := cell_upd0 HUC.out k1; have j2 := cell_upd0 HUC.out k2; have j3 := cell_upd0 HUC.out k3; clear hq10 hu))
          all_goals
            go_wp2_with fail
            go_roundg g1
            case rel => exact ⟨j + 1, b, sh', m', q', rfl, by go_num, by omega, by omega, hm', by omega, HSN, ⟨(HT9.out.upd0 HUC.out).two⟩⟩
            case measure => omega
        have z6 : (r == 6) = false := beq_eq_false_iff_ne.mpr r6
        have z7 : (r == 7) = false := beq_eq_false_iff_ne.mpr r7
        clear r0 r1 r2 r6 r7
        obtain ⟨sh', m', q', hs⟩ : ∃ sh' m' q', (sh', m', q') = opS n (.read id) sh m q := ⟨_, _, _, rfl⟩
        obtain ⟨hm', hq'⟩ := opS_small hs hml hn2
        have HSN : Aside0 (sh' = false → m' = []) := ⟨opS_shown hs HSM.out⟩
        have HE := Aside0.mk hs
        clear hs
        obtain ⟨rm, hk⟩ : ∃ rm, rm = readR sh m := ⟨_, rfl⟩
        have HK := Aside0.mk hk
        have hff : (sh != sh) = false := by simp
        clear hk
        go_wp2_with fail
        refine (BdOp2.code_read wc G b n sh sh' m m' q q' rm id HS.out.hat (by omega) (by omega) HE.out HK.out).mono ?_
        rintro e w4 ⟨A4, c4, rfl, hC4, h4, hu⟩
        have HC4 := Aside0.mk hC4
        clear hC4
        have HS4 := Aside0.mk (HS.out.code h4 hu)
        have hb1 := HS4.out.ha
        have hb2 := HS4.out.hd
        have c1 : w4.cell? ⟨a, 1, none⟩ = some (.int .i64 id) := blk_cell hb1 1
        have c2 : w4.cell? ⟨a, 2, none⟩ = some (.slice A x.length c) := blk_cell hb1 2
        have d0 : w4.cell? ⟨d, 0, none⟩ = some (.int .i64 n) := blk_cell hb2 0
        have d1 : w4.cell? ⟨d, 1, none⟩ = some (.slice Am m.length cm) := blk_cell hb2 1
        have d2 : w4.cell? ⟨d, 2, none⟩ = some (.bool sh) := blk_cell hb2 2
        have d3 : w4.cell? ⟨d, 3, none⟩ = some (.slice Al q.length cl) := blk_cell hb2 3
        clear h4 hu hb1 hb2 HS a0 a1 a2
        go_wp2_with fail
        refine (BdOp2.doc_read w4 _ GL n Am cm Al cl sh sh' m m' q q' rm id HS4.out.hm HS4.out.hmc HS4.out.hq (by omega) HE.out HK.out).mono ?_
        rintro e w5 ⟨v5, A5, c5, rfl, ⟨Am5, cm5, Al5, cl5, rfl, hF5, hc5, hR5⟩, hC5, hu⟩
        have HC5 := Aside0.mk hC5
        have HC6 := Aside0.mk (Kd.C_below HC4.out (hu.to_below (Nat.le_refl _) (fun _ h => h.elim)))
        clear hC5 HC4
        have HS5 := Aside0.mk (HS4.out.upd0 hu)
        have HL5 := Aside0.mk (St.rows HS5.out HS4.out)
        have hb5 := HS5.out.hd
        clear HS4 c1 c2 d0 d1 d2 d3
        have HF5 := Aside0.mk hF5
        have HR5 := Aside0.mk hR5
        clear hb5 hu hF5 hR5
        go_wp2_with fail
        obtain ⟨W6, hW6⟩ : ∃ W6, W6 = w5.alloc (.cells #[.int .i64 n, .slice Am5 m'.length cm5, .bool sh', .slice Al5 q'.length cl5] 50) := ⟨_, rfl⟩
        rw [← hW6]
        obtain ⟨nx, hnx⟩ : ∃ nx, nx = w5.heap.size := ⟨_, rfl⟩
        rw [← hnx]
        have hu6 : Upd w5 W6 (fun _ => False) := by rw [hW6]; exact (Upd.refl _ _).alloc _
        have HN6 : Aside0 (W6.heap[nx]? = some (.cells #[.int .i64 n, .slice Am5 m'.length cm5, .bool sh', .slice Al5 q'.length cl5] 50 (0, 0))) := ⟨by rw [hW6, hnx]; exact heap_alloc_new _ _⟩
        have HS6 := Aside0.mk (HS5.out.upd0 hu6)
        have HF6 := Aside0.mk (Kd.F_kept HF5.out hu6.kept (fun _ _ h => h))
        have HR6 := Aside0.mk (R_upd0 HR5.out hu6)
        have HU6 := Aside0.mk hu6
        have hnw : w5.heap.size ≤ nx := by omega
        clear hW6 hnx hu6 HS5 HF5 HR5
        refine (SameU.same_calls A4 c4 rm A5 c5 rm W6 (Kd.C_below HC6.out (HU6.out.to_below (Nat.le_refl _) (fun _ h => h.elim))) (Kd.C_below HC5.out (HU6.out.to_below (Nat.le_refl _) (fun _ h => h.elim)))).mono ?_
        rw [show eqB rm rm = true by simp [eqB]]
        rintro e w7 ⟨rfl, hq7⟩
        have hu := Upd.of_q hq7
        clear hq7 HC5 HC6
        have HS7 := Aside0.mk (HS6.out.upd0 hu)
        have HF7 := Aside0.mk (Kd.F_kept HF6.out hu.kept (fun _ _ h => h))
        have HR7 := Aside0.mk (R_upd0 HR6.out hu)
        have hb7 := (hu.block (blk_lt HN6.out) (fun h => h)).trans HN6.out
        have hb8 := HS7.out.hd
        have n0 : w7.cell? ⟨nx, 0, none⟩ = some (.int .i64 n) := blk_cell hb7 0
        have n1 : w7.cell? ⟨nx, 1, none⟩ = some (.slice Am5 m'.length cm5) := blk_cell hb7 1
        have n2 : w7.cell? ⟨nx, 2, none⟩ = some (.bool sh') := blk_cell hb7 2
        have n3 : w7.cell? ⟨nx, 3, none⟩ = some (.slice Al5 q'.length cl5) := blk_cell hb7 3
        have d0 : w7.cell? ⟨d, 0, none⟩ = some (.int .i64 n) := blk_cell hb8 0
        have d1 : w7.cell? ⟨d, 1, none⟩ = some (.slice Am m.length cm) := blk_cell hb8 1
        have d2 : w7.cell? ⟨d, 2, none⟩ = some (.bool sh) := blk_cell hb8 2
        have d3 : w7.cell? ⟨d, 3, none⟩ = some (.slice Al q.length cl) := blk_cell hb8 3
        have f0 := blk_frozen hb8 0
        have f1 := blk_frozen hb8 1
        have f2 := blk_frozen hb8 2
        have f3 := blk_frozen hb8 3
        clear hu hb7 hb8 HS6 HF6 HR6 HN6
        go_wp2_with fail
        have HT5 := Aside0.mk (HS7.out.put (sh' := sh') HF7.out hc5 HR7.out HL5.out)
        clear n0 n1 n2 n3 d0 d1 d2 d3 f0 f1 f2 f3 HS7 HF7 HR7
        refine (code_shown _ _ b n sh' m' q' HT5.out.hat (by omega) HSN.out).mono ?_
        rintro e w9 ⟨A9, c9, rfl, h9, hu⟩
        have HT9 := Aside0.mk (HT5.out.upd0 hu)
        have H9 := Aside0.mk h9
        have k1 : w9.cell? ⟨d, 1, none⟩ = some (.slice Am5 m'.length cm5) := blk_cell HT9.out.hd 1
        have k2 : w9.cell? ⟨d, 2, none⟩ = some (.bool sh') := blk_cell HT9.out.hd 2
        have k3 : w9.cell? ⟨d, 3, none⟩ = some (.slice Al5 q'.length cl5) := blk_cell HT9.out.hd 3
        have hss : (sh' != sh') = false := by simp
        have hql1 : q'.length ≤ 1000000 := by omega
        have HUC : Aside0 (Upd w9 w9.drew (fun _ => False)) := ⟨(Upd.refl _ _).drew⟩
        clear h9 hu HT5
        go_upto_region 44 with fail
        go_region_held3 (fun w' => w'.cell? ⟨d, 1, none⟩ = some (.slice Am5 m'.length cm5) ∧ w'.cell? ⟨d, 2, none⟩ = some (.bool sh') ∧ w'.cell? ⟨d, 3, none⟩ = some (.slice Al5 q'.length cl5)) (first | exact ⟨j1, j2, j3⟩ | exact ⟨k1, k2, k3⟩ | go_keep)
          (first
            | (go_at_call 15; with_reducible refine (SameU.same_calls A9 c9 m' Am5 cm5 m' _ (Kd.C_below H9.out (HUC.out.to_below (Nat.le_refl _) (fun _ h => h.elim))) (Kd.F_now (HT9.out.upd0 HUC.out).hm)).mono ?_; rw [show eqB m' m' = true by simp [eqB]]; rintro e w10 ⟨rfl, hq10⟩; have hu := Upd.of_q hq10; have HUN := Aside0.mk (HUC.out.step hu); clear HUC; have HUC := HUN; clear HUN; have j1 := cell_upd0 HUC.out k1; have j2 := cell_upd0 HUC.out k2; have j3 := cell_upd0 HUC.out k3; clear hq10 hu)
            | (go_at_call 17; with_reducible refine (waiting_calls _ _ b n sh' m' q' (HT9.out.upd0 HUC.out).hat hql1).mono ?_; rintro e w10 ⟨v10, rfl, hr10, hu⟩; obtain ⟨Aw, cw, rfl⟩ := Kd.R_slice hr10; have HRW := Aside0.mk (Kd.R_reads' hr10).2.2; have HUN := Aside0.mk (HUC.out.step hu); clear HUC; have HUC := HUN; clear HUN; have j1 := cell_upd0 HUC.out k1; have j2 := cell_upd0 HUC.out k2; have j3 := cell_upd0 HUC.out k3; clear hr10 hu)
            | (go_at_call 18; with_reducible refine (SameI.same_calls Aw cw q' Al5 cl5 q' _ HRW.out (Kd.R_reads' (HT9.out.upd0 HUC.out).hq).2.2).mono ?_; rw [show eqB q' q' = true by simp [eqB]]; rintro e w10 ⟨rfl, hq10⟩; have hu := Upd.of_q hq10; have HUN := Aside0.mk (HUC.out.step hu); clear HUC; have HUC := HUN; clear HUN; have j1 := cell_upd0 HUC.out k1; have j2 := cell_upd0 HUC.out k2; have j3 := cell_upd0 HUC.out k3; clear hq10 hu))
        all_goals
          go_wp2_with fail
          go_roundg g1
          case rel => exact ⟨j + 1, b, sh', m', q', rfl, by go_num, by omega, by omega, hm', by omega, HSN, ⟨(HT9.out.upd0 HUC.out).two⟩⟩
          case measure => omega
    · have e1 : decide ((j : Int) < (l.length : Int)) = false := by rw [decide_eq_false_iff_not]; omega
      have b3 : (l.length : Int) ≤ (j : Int) := by omega
      obtain ⟨_, _, _, _, _, _, _, _, _, _, _, _, _, _, _, hbw⟩ := HT.out
      have HB := Aside0.mk hbw
      clear hbw HT
      go_wp2_with fail
      go_ret
      exact ⟨rfl, HB.out⟩
end Go.Proofs.Ytdmhlfjocajinaa.BdPlays
