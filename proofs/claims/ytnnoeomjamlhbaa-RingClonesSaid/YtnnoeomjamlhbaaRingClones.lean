import Derived.Test.YtnnoeomjamlhbaaRingCl
import Derived.LaidEqlPtr
set_option linter.unusedVariables false
set_option linter.unusedSimpArgs false
namespace Go.Proofs.Ytnnoeomjamlhbaa.RingClones
attribute [local go_sem ↓] Go.wp_at_zero Go.wp_at_succ
open Go.RowKit Go.Proofs.YtnnoeomjamlhbaaW.PrintWords Go.Proofs.Ytnnoeomjamlhbaa.Own Go.Proofs.Ytnnoeomjamlhbaa.Own2 Go.Proofs.Ytnnoeomjamlhbaa.SlU Go.Proofs.Ytnnoeomjamlhbaa.Ring Go.Proofs.Ytnnoeomjamlhbaa.RingQ Go.Proofs.Ytnnoeomjamlhbaa.RingTold Go.Proofs.Ytnnoeomjamlhbaa.RingAll Go.Proofs.Ytnnoeomjamlhbaa.RingClr Go.Proofs.Ytnnoeomjamlhbaa.RingSt Go.Proofs.Ytnnoeomjamlhbaa.RingDo Go.Proofs.Ytnnoeomjamlhbaa.RingLs Go.Proofs.Ytnnoeomjamlhbaa.RingCl

set_option maxRecDepth 20000 in
set_option maxHeartbeats 16000000 in
theorem walk (cs : Array Value) (how : Int × Int) (A0 : Option Addr) (c0 : Nat) (ops : List (Int × List Int)) (B0 : Option Addr) (d0 : Nat) (then_ : List (Int × List Int)) (w : World) (hy : (Kd.pair (Kd.int .i64) (Kd.int .i64)).K w how cs.toList) (_ : (Lit.int .i64 how.1).wf = true ∧ (Lit.int .i64 how.2).wf = true) (hr : opk.C w A0 ops.length ops) (hc : ops.length ≤ c0) (_ : ∀ y ∈ ops, (Lit.int .i64 y.1).wf = true ∧ ∀ z ∈ y.2, (Lit.int .u32 z).wf = true)
    (hr' : opk.C w B0 then_.length then_) (hc' : then_.length ≤ d0) (_ : ∀ y ∈ then_, (Lit.int .i64 y.1).wf = true ∧ ∀ z ∈ y.2, (Lit.int .u32 z).wf = true) :
    Calls Try.prog 7 #[.agg cs, .slice A0 ops.length c0, .slice B0 then_.length d0] w fun e w' => e = .returned (.bool true) ∧ Below w.heap.size w w' := by
  obtain ⟨r0, w0⟩ := how
  have hcs : cs = #[.int .i64 r0, .int .i64 w0] := by
    obtain ⟨x0, x1, h0, h1, h2⟩ := hy
    have h1' : x0 = [.int .i64 r0] := h1
    have h2' : x1 = [.int .i64 w0] := h2
    subst h1' h2'
    cases cs
    simpa using h0
  subst hcs
  have HR := Aside0.mk hr
  have HR' := Aside0.mk hr'
  have hm := Kd.C_max hr
  have hm' := Kd.C_max hr'
  clear hr hr' hy
  have hu34 := Try.underlying43
  have hu38 := Try.underlying49
  go_enter Try.func7, Try.ntmps7
  go_wp2_with fail
  generalize hWB : World.alloc w _ = WB
  have UB : Aside0 (Upd w WB (fun _ => False)) := ⟨by rw [← hWB]; exact (Upd.refl _ _).alloc _⟩
  have hzB : w.heap.size ≤ WB.heap.size := UB.out.size
  clear hWB
  refine (begin_calls r0 w0 WB).mono ?_
  rintro e w1 ⟨n, mm, b, rfl, hnm, hb, h1, hu1⟩
  have H1 := Aside0.mk h1.bound
  have U1 := Aside0.mk (UB.out.step hu1)
  have hz1 := U1.out.size
  clear h1 hu1 UB
  go_wp2_with fail
  obtain ⟨W2, hW2⟩ : ∃ W2, W2 = w1.alloc (.cells #[.int .i64 n, .int .i64 mm, .slice none 0 0] 43) := ⟨_, rfl⟩
  rw [← hW2]
  have hs2 : W2.heap.size = w1.heap.size + 1 := by rw [hW2]; simp
  have hS : LS w W2 b w1.heap.size n mm [] := ⟨none, 0, fun k => WB.heap.size ≤ k ∧ k < w1.heap.size, fun _ => False, ⟨H1.out.upd0 (by rw [hW2]; exact (Upd.refl _ _).alloc _), Kd.V_nil _ _ _ _ _, fun _ _ h => h⟩, by rw [hW2]; exact heap_alloc_new _ _, fun h => by omega, fun h => h, fun k hk => Nat.le_trans hzB hk.1, hz1, (U1.out.step (by rw [hW2]; exact (Upd.refl _ _).alloc _)).to_below (Nat.le_refl _) (fun _ h => h.elim)⟩
  obtain ⟨p, hp⟩ : ∃ p, p = w1.heap.size := ⟨_, rfl⟩
  rw [← hp] at hS ⊢
  have HS := Aside0.mk hS
  clear hS hW2 H1 U1 hp hs2 hz1
  refine (told_calls W2).mono ?_
  rintro e w2 ⟨rfl, hu2⟩
  have HS2 : Aside0 (LS w w2 b p n mm []) := ⟨HS.out.upd hu2⟩
  have B0' : Aside0 (Below w.heap.size w w) := ⟨Below.refl _ _⟩
  clear hu2 HS
  go_wp2_with fail
  go_loopg [9] ops.length (fun g i wr => ∃ (j : Nat) (q : List (List Int)), i = .int .i64 j ∧ j ≤ ops.length ∧ j ≤ 60 ∧ ops.length - j ≤ g ∧ Aside0 (LS w wr b p n mm q))
  case atStart => exact ⟨0, [], rfl, Nat.zero_le _, Nat.zero_le _, by omega, HS2⟩
  case round =>
    clear HS2
    obtain ⟨j, q, rfl, hj, hj60, hg, HS⟩ := hrel
    by_cases hlt : j < ops.length ∧ j < 60
    · obtain ⟨hlt, hlt2⟩ := hlt
      cases gk with
      | zero => omega
      | succ g1 =>
      have b0 : (0 : Int) ≤ (j : Int) := by omega
      have b1 : (j : Int) < (ops.length : Int) := by omega
      have b2 : (j : Int) < 60 := by omega
      have e1 : decide ((j : Int) < (ops.length : Int)) = true := by rw [decide_eq_true_eq]; omega
      have e2 : decide ((j : Int) < 60) = true := by rw [decide_eq_true_eq]; omega
      go_upto_region 7 with fail
      obtain ⟨ad, Am, cm, rfl, hc0, hc1, hmc, hmC⟩ := op_at HR.out j hlt
      obtain ⟨A9, c9, F9, G9, h2, hp, hpF, hpG, hF, hwp, hbw⟩ := HS.out
      obtain ⟨kd, m, hop⟩ : ∃ kd m, ops[j] = (kd, m) := ⟨_, _, rfl⟩
      rw [hop] at hc0 hc1 hmc hmC
      have d0 := pw_cell_below hbw (pw_cell_below B0'.out hc0)
      have d1 := pw_cell_below hbw (pw_cell_below B0'.out hc1)
      have p0 := (blk_cell hp 0).trans rfl
      have p1 := (blk_cell hp 1).trans rfl
      have p2 := (blk_cell hp 2).trans rfl
      obtain ⟨q2, hq2l, hdo⟩ := LS.do (w := w) (wr := wr) (b := b) (p := p) (room := n) (words := mm) (q := q) (A := A9) (c := c9) (F := F9) (G := G9) kd m
      have HDO : Aside0 (∀ X, Upd wr X (fun _ => False) → Calls Try.prog 18 #[.pointer (some ⟨b, 0, none⟩), .agg #[.int .i64 n, .int .i64 mm, .slice A9 q.length c9], .agg #[.int .i64 kd, .slice Am m.length cm]] X fun e w4 => ∃ A2 c2, e = .returned (.tuple #[.agg #[.int .i64 n, .int .i64 mm, .slice A2 q2.length c2], .bool true]) ∧ w4.frozen? ⟨p, 0, none⟩ = false ∧ w4.frozen? ⟨p, 1, none⟩ = false ∧ w4.frozen? ⟨p, 2, none⟩ = false ∧ (∃ v, w4.cell? ⟨p, 0, none⟩ = some (.int .i64 v)) ∧ (∃ v, w4.cell? ⟨p, 1, none⟩ = some (.int .i64 v)) ∧ (∃ A' n' c', w4.cell? ⟨p, 2, none⟩ = some (.slice A' n' c')) ∧
          LS w (((w4.setCell ⟨p, 0, none⟩ (.int .i64 n)).setCell ⟨p, 1, none⟩ (.int .i64 mm)).setCell ⟨p, 2, none⟩ (.slice A2 q2.length c2)) b p n mm q2) := ⟨by
        intro X hX
        have hbm := hbw.upd hbw.size hX (fun _ h => h.elim)
        refine (hdo h2 hp hpF hpG hF hwp hbw Am cm (Kd.C_below hmC B0'.out) hmc X hX).mono ?_
        rintro e w4 ⟨A2, c2, rfl, has, hu⟩
        obtain ⟨A', c', hb4⟩ := has.blk
        exact ⟨A2, c2, rfl, blk_frozen hb4 0, blk_frozen hb4 1, blk_frozen hb4 2, ⟨_, blk_cell hb4 0⟩, ⟨_, blk_cell hb4 1⟩, ⟨_, _, _, blk_cell hb4 2⟩, has.store⟩⟩
      clear h2 hp hpF hpG hF hwp hbw hop hc0 hc1 HS hdo hmC hmc
      first | go_region_with (first
        | (go_at_call 18; refine (HDO.out _ (Upd.refl _ _).drew).mono ?_; rintro e w4 ⟨A2, c2, rfl, f0, f1, f2, ⟨y0, k0⟩, ⟨y1, k1⟩, ⟨y2, y3, y4, k2⟩, hs⟩; have S4 := Aside0.mk hs; clear hs)) | fail
      all_goals
        try simp only [Act.put, List.setIfInBounds_toArray, List.set_cons_zero, List.set_cons_succ]
        clear p0 p1 p2 d0 d1 HDO
        go_wp2_with fail
        go_roundg g1
        case rel => exact ⟨j + 1, q2, by go_num, by omega, by omega, by omega, S4⟩
        case measure => omega
    · go_upto_region 5 with fail
      go_cut [36] (fun s wc => s = .bool false ∧ wc = wr)
      case first =>
        by_cases hlt1 : j < ops.length
        · have e1 : decide ((j : Int) < (ops.length : Int)) = true := by rw [decide_eq_true_eq]; omega
          have e2 : decide ((j : Int) < 60) = false := by rw [decide_eq_false_iff_not]; omega
          have e3 : (60 : Int) ≤ (j : Int) := by omega
          have e4 : (j : Int) < (ops.length : Int) := by omega
          go_wp2_with fail
          go_meet
          exact ⟨rfl, rfl⟩
        · have e1 : decide ((j : Int) < (ops.length : Int)) = false := by rw [decide_eq_false_iff_not]; omega
          have e3 : (ops.length : Int) ≤ (j : Int) := by omega
          go_wp2_with fail
          go_meet
          exact ⟨rfl, rfl⟩
      case rest =>
        obtain ⟨rfl, rfl⟩ := hcut
        obtain ⟨w3, hw3⟩ : ∃ w3, w3 = wc := ⟨_, rfl⟩
        subst hw3
        clear hg hlt
        obtain ⟨A, c, F, G, h2, hp, hpF, hpG, hF, hwp, hbw⟩ := HS.out
        have HT := Aside0.mk (Two.bound h2)
        have HP := Aside0.mk hp
        have HPF := Aside0.mk hpF
        have HPG := Aside0.mk hpG
        have HBw := Aside0.mk hbw
        have hpl := blk_lt hp
        have hbl := h2.1.lt
        clear h2 hp hpF hpG hF hwp hbw HS
        go_wp2_with fail
        refine (q_clone w3 _ b n mm q HT.out.1).mono ?_
        rintro e w5 ⟨c', rfl, hcl, hqc, huc⟩
        have hne : ¬ c' = b := by omega
        have hE : (binOp .eql 23 (.pointer (some ⟨c', 0, none⟩)) (.pointer (some ⟨b, 0, none⟩))).run Try.prog w5 = .ok (.bool false) w5 := by
          obtain ⟨_, _, ⟨_, _, _, _, hb1, _⟩, _⟩ := hqc
          obtain ⟨_, _, ⟨_, _, _, _, hb2, _⟩, _⟩ := HT.out.1.upd0 huc
          obtain ⟨i, hi, his⟩ : ∃ i, Try.prog.info? 58 = some i ∧ i.size = 4 := ⟨_, rfl, rfl⟩
          exact run_eql_ptr_other w5 Try.underlying23 hi (by rw [his]; decide) (fun h => hne (by injection h)) hb1 hb2
        have HC5 := Aside0.mk hqc
        have HU5 := Aside0.mk huc
        clear hqc huc
        go_wp2_with fail
        refine (same_all w5 _ _ c' b n mm q q HC5.out (HT.out.1.upd0 HU5.out)).mono ?_
        rw [show eqLB q q = true by simp [eqLB]]
        rintro e w6 ⟨rfl, hu6⟩
        have HC6 := Aside0.mk (HC5.out.upd0 hu6)
        have HU6 := Aside0.mk (HU5.out.step hu6)
        have hz56 := hu6.size
        clear hu6 HC5
        go_wp2_with fail
        refine (same_all w6 _ _ b c' n mm q q (HT.out.1.upd0 HU6.out) HC6.out).mono ?_
        rw [show eqLB q q = true by simp [eqLB]]
        rintro e w7 ⟨rfl, hu7⟩
        have HC7 := Aside0.mk (HC6.out.bound.upd0 hu7)
        have HU7 := Aside0.mk (HU6.out.step hu7)
        have hz67 := hu7.size
        clear hu7 HC6 HU5 HU6 hE
        go_wp2_with fail
        refine (same_nil w7 b).mono ?_
        rintro e w8 ⟨rfl, rfl⟩
        have hp7 := (HU7.out.block hpl (fun h => h)).trans HP.out
        have p0 := (blk_cell hp7 0).trans rfl
        have p1 := (blk_cell hp7 1).trans rfl
        have p2 := (blk_cell hp7 2).trans rfl
        clear hp7
        go_wp2_with fail
        obtain ⟨WX, hWX⟩ : ∃ WX, WX = w7.alloc (.cells #[.int .i64 n, .int .i64 mm, .slice A q.length c] 43) := ⟨_, rfl⟩
        rw [← hWX]
        have hUX : Upd w7 WX (fun _ => False) := by
          rw [hWX]
          exact (Upd.refl w7 (fun _ => False)).alloc _
        have hPX : WX.heap[w7.heap.size]? = some (.cells #[.int .i64 n, .int .i64 mm, .slice A q.length c] 43 (0, 0)) := by
          rw [hWX]
          exact heap_alloc_new w7 _
        have hz5 := HU7.out.size
        have hSX : LS w3 WX c' w7.heap.size n mm q := ⟨A, c, _, _, ⟨HC7.out.upd0 hUX, Kd.V_kept HT.out.2.1 (HU7.out.step hUX).kept (fun _ _ h => h), fun k hk hg => by have := hk.1; have := hg.2; omega⟩, hPX, fun h => by have := h.2; omega, fun h => by have := h.2; omega, fun k hk => hk.1, hz5, (HU7.out.step hUX).to_below (Nat.le_refl _) (fun _ h => h.elim)⟩
        obtain ⟨px, hpx⟩ : ∃ px, px = w7.heap.size := ⟨_, rfl⟩
        rw [← hpx] at hSX ⊢
        have HSX := Aside0.mk hSX
        clear hSX hPX hUX hWX hpx HC7 HU7 p0 p1 p2 hz5 hz56 hz67
        go_loopg [12] then_.length (fun g i wr => ∃ (j : Nat) (x : List (List Int)), i = .int .i64 j ∧ j ≤ then_.length ∧ j ≤ 60 ∧ then_.length - j ≤ g ∧ Aside0 (LS w3 wr c' px n mm x))
        case atStart => exact ⟨0, q, rfl, Nat.zero_le _, Nat.zero_le _, by omega, HSX⟩
        case round =>
        clear HSX hj hj60
        obtain ⟨j, x, rfl, hj, hj60, hg, HS⟩ := hrel
        by_cases hlt : j < then_.length ∧ j < 60
        · obtain ⟨hlt, hlt2⟩ := hlt
          cases gk with
          | zero => omega
          | succ g1 =>
          have b0 : (0 : Int) ≤ (j : Int) := by omega
          have b1 : (j : Int) < (then_.length : Int) := by omega
          have b2 : (j : Int) < 60 := by omega
          have e1 : decide ((j : Int) < (then_.length : Int)) = true := by rw [decide_eq_true_eq]; omega
          have e2 : decide ((j : Int) < 60) = true := by rw [decide_eq_true_eq]; omega
          go_upto_region 15 with fail
          obtain ⟨ad, Am, cm, rfl, hc0, hc1, hmc, hmC⟩ := op_at HR'.out j hlt
          obtain ⟨A9, c9, F9, G9, h2, hp, hpF, hpG, hF, hwp, hbw⟩ := HS.out
          obtain ⟨kd, m, hop⟩ : ∃ kd m, then_[j] = (kd, m) := ⟨_, _, rfl⟩
          rw [hop] at hc0 hc1 hmc hmC
          have d0 := pw_cell_below hbw (pw_cell_below HBw.out hc0)
          have d1 := pw_cell_below hbw (pw_cell_below HBw.out hc1)
          have p0 := (blk_cell hp 0).trans rfl
          have p1 := (blk_cell hp 1).trans rfl
          have p2 := (blk_cell hp 2).trans rfl
          obtain ⟨q2, hq2l, hdo⟩ := LS.do (w := w3) (wr := wr) (b := c') (p := px) (room := n) (words := mm) (q := x) (A := A9) (c := c9) (F := F9) (G := G9) kd m
          have HDO : Aside0 (∀ X, Upd wr X (fun _ => False) → Calls Try.prog 18 #[.pointer (some ⟨c', 0, none⟩), .agg #[.int .i64 n, .int .i64 mm, .slice A9 x.length c9], .agg #[.int .i64 kd, .slice Am m.length cm]] X fun e w4 => ∃ A2 c2, e = .returned (.tuple #[.agg #[.int .i64 n, .int .i64 mm, .slice A2 q2.length c2], .bool true]) ∧ w4.frozen? ⟨px, 0, none⟩ = false ∧ w4.frozen? ⟨px, 1, none⟩ = false ∧ w4.frozen? ⟨px, 2, none⟩ = false ∧ (∃ v, w4.cell? ⟨px, 0, none⟩ = some (.int .i64 v)) ∧ (∃ v, w4.cell? ⟨px, 1, none⟩ = some (.int .i64 v)) ∧ (∃ A' n' c', w4.cell? ⟨px, 2, none⟩ = some (.slice A' n' c')) ∧
              LS w3 (((w4.setCell ⟨px, 0, none⟩ (.int .i64 n)).setCell ⟨px, 1, none⟩ (.int .i64 mm)).setCell ⟨px, 2, none⟩ (.slice A2 q2.length c2)) c' px n mm q2) := ⟨by
            intro X hX
            have hbm := hbw.upd hbw.size hX (fun _ h => h.elim)
            refine (hdo h2 hp hpF hpG hF hwp hbw Am cm (Kd.C_below hmC HBw.out) hmc X hX).mono ?_
            rintro e w4 ⟨A2, c2, rfl, has, hu⟩
            obtain ⟨A', c', hb4⟩ := has.blk
            exact ⟨A2, c2, rfl, blk_frozen hb4 0, blk_frozen hb4 1, blk_frozen hb4 2, ⟨_, blk_cell hb4 0⟩, ⟨_, blk_cell hb4 1⟩, ⟨_, _, _, blk_cell hb4 2⟩, has.store⟩⟩
          clear h2 hp hpF hpG hF hwp hbw hop hc0 hc1 HS hdo hmC hmc
          first | go_region_with (first
            | (go_at_call 18; refine (HDO.out _ (Upd.refl _ _).drew).mono ?_; rintro e w4 ⟨A2, c2, rfl, f0, f1, f2, ⟨y0, k0⟩, ⟨y1, k1⟩, ⟨y2, y3, y4, k2⟩, hs⟩; have S4 := Aside0.mk hs; clear hs)) | fail
          all_goals
            try simp only [Act.put, List.setIfInBounds_toArray, List.set_cons_zero, List.set_cons_succ]
            clear p0 p1 p2 d0 d1 HDO
            go_wp2_with fail
            obtain ⟨WS, hWS⟩ : ∃ WS, WS = (((w4.setCell ⟨px, 0, none⟩ (.int .i64 n)).setCell ⟨px, 1, none⟩ (.int .i64 mm)).setCell ⟨px, 2, none⟩ (.slice A2 q2.length c2)) := ⟨_, rfl⟩
            rw [← hWS] at S4 ⊢
            clear hWS f0 f1 f2 k0 k1 k2
            have hs4 := S4.out
            obtain ⟨A3, c3, F3, G3, h3, hp3, _, _, _, _, hb3⟩ := hs4
            have HU := Aside0.mk (Upd.of_below hb3 (fun _ => False))
            have H1 := Aside0.mk (Two.upd0 HT.out HU.out)
            have H2 := Aside0.mk h3
            have p2 : WS.cell? ⟨p, 2, none⟩ = some (.slice A q.length c) := (blk_cell ((HU.out.block hpl (fun h => h)).trans HP.out) 2).trans rfl
            have x2 : WS.cell? ⟨px, 2, none⟩ = some (.slice A3 q2.length c3) := (blk_cell hp3 2).trans rfl
            have V1 := Aside0.mk (show ∀ X, Upd WS X (fun _ => False) → q.length ≤ c ∧ mk.C X A q.length q from fun X hX => ⟨(Kd.V_reads' H1.out.2.1).2.1, (Kd.V_reads' (Kd.V_kept H1.out.2.1 hX.kept (fun _ _ h => h))).2.2⟩)
            have V2 := Aside0.mk (show ∀ X, Upd WS X (fun _ => False) → q2.length ≤ c3 ∧ mk.C X A3 q2.length q2 from fun X hX => ⟨(Kd.V_reads' H2.out.2.1).2.1, (Kd.V_reads' (Kd.V_kept H2.out.2.1 hX.kept (fun _ _ h => h))).2.2⟩)
            clear h3 hp3 hb3 HU
            obtain ⟨y, hy⟩ : ∃ y, y = eqLB q q2 := ⟨_, rfl⟩
            have HY := Aside0.mk hy
            have hyy : (y != y) = false := by simp
            clear hy
            have R1 := Aside0.mk H1.out.1
            have R2 := Aside0.mk H2.out.1
            go_region_held3 (fun w' => w'.cell? ⟨p, 2, none⟩ = some (.slice A q.length c) ∧ w'.cell? ⟨px, 2, none⟩ = some (.slice A3 q2.length c3)) (first | exact ⟨kA, kB⟩ | exact ⟨k9, kC⟩ | exact ⟨k8, kD⟩ | exact ⟨k7, kE⟩ | exact ⟨k6, kF⟩ | exact ⟨k5, kG⟩ | go_keep)
              (first
                | (go_at_call 16; (with_reducible refine (q_all _ _ b n mm q (R1.out.upd0 ?_)).mono ?_); (first | exact (Upd.refl _ _).drew | exact ((Upd.refl _ _).drew).drew); rintro e w5 ⟨v5, rfl, hr5, hu5⟩; obtain ⟨A5, c5, rfl⟩ := Kd.R_slice hr5; have k5 := cell_upd0 hu5 p2; have kG := cell_upd0 hu5 x2; have HW5 := Aside0.mk (((Upd.refl WS (fun _ => False)).drew).step hu5); have HR5 := Aside0.mk hr5; clear hr5 hu5)
                | (go_at_call 19; (with_reducible refine (sameall_calls A5 c5 q A c q w5 (Kd.R_reads' HR5.out).2.2 (Kd.R_reads' HR5.out).2.1 (V1.out _ HW5.out).2 (V1.out _ HW5.out).1).mono ?_); rw [show eqLB q q = true by simp [eqLB]]; rintro e w6 ⟨rfl, hu6⟩; have k6 := cell_upd0 hu6 k5; have kF := cell_upd0 hu6 kG; have HW6 := Aside0.mk (HW5.out.step hu6); clear hu6)
                | (go_at_call 16; (with_reducible refine (q_all _ _ c' n mm q2 (R2.out.upd0 HW6.out)).mono ?_); rintro e w7 ⟨v7, rfl, hr7, hu7⟩; obtain ⟨A7, c7, rfl⟩ := Kd.R_slice hr7; have k7 := cell_upd0 hu7 k6; have kE := cell_upd0 hu7 kF; have HW7 := Aside0.mk (HW6.out.step hu7); have HR7 := Aside0.mk hr7; clear hr7 hu7)
                | (go_at_call 19; (with_reducible refine (sameall_calls A7 c7 q2 A3 c3 q2 w7 (Kd.R_reads' HR7.out).2.2 (Kd.R_reads' HR7.out).2.1 (V2.out _ HW7.out).2 (V2.out _ HW7.out).1).mono ?_); rw [show eqLB q2 q2 = true by simp [eqLB]]; rintro e w8 ⟨rfl, hu8⟩; have k8 := cell_upd0 hu8 k7; have kD := cell_upd0 hu8 kE; have HW8 := Aside0.mk (HW7.out.step hu8); clear hu8)
                | (go_at_call 23; (with_reducible refine (same_all w8 _ _ b c' n mm q q2 (R1.out.upd0 HW8.out) (R2.out.upd0 HW8.out)).mono ?_); rw [← HY.out]; rintro e w9 ⟨rfl, hu9⟩; have k9 := cell_upd0 hu9 k8; have kC := cell_upd0 hu9 kD; have HW9 := Aside0.mk (HW8.out.step hu9); clear hu9)
                | (go_at_call 19; (with_reducible refine (sameall_calls A c q A3 c3 q2 w9 (V1.out _ HW9.out).2 (V1.out _ HW9.out).1 (V2.out _ HW9.out).2 (V2.out _ HW9.out).1).mono ?_); rw [← HY.out]; rintro e wA ⟨rfl, huA⟩; have kA := cell_upd0 huA k9; have kB := cell_upd0 huA kC; have HWA := Aside0.mk (HW9.out.step huA); clear huA))
            go_wp2_with fail
            go_roundg g1
            case rel => exact ⟨j + 1, q2, by go_num, by omega, by omega, by omega, ⟨S4.out.upd HWA.out⟩⟩
            case measure => omega
        · go_upto_region 13 with fail
          go_cut [82] (fun s wc => s = .bool false ∧ wc = wr)
          case first =>
            by_cases hlt1 : j < then_.length
            · have e1 : decide ((j : Int) < (then_.length : Int)) = true := by rw [decide_eq_true_eq]; omega
              have e2 : decide ((j : Int) < 60) = false := by rw [decide_eq_false_iff_not]; omega
              have e3 : (60 : Int) ≤ (j : Int) := by omega
              have e4 : (j : Int) < (then_.length : Int) := by omega
              go_wp2_with fail
              go_meet
              exact ⟨rfl, rfl⟩
            · have e1 : decide ((j : Int) < (then_.length : Int)) = false := by rw [decide_eq_false_iff_not]; omega
              have e3 : (then_.length : Int) ≤ (j : Int) := by omega
              go_wp2_with fail
              go_meet
              exact ⟨rfl, rfl⟩
          case rest =>
            obtain ⟨rfl, rfl⟩ := hcut
            clear hg hlt
            obtain ⟨A3, c3, F3, G3, h3, hp3, _, _, _, _, hb3⟩ := HS.out
            have HU := Aside0.mk (Upd.of_below hb3 (fun _ => False))
            have H1 := Aside0.mk (Two.upd0 HT.out HU.out)
            have hp4 := (HU.out.block hpl (fun h => h)).trans HP.out
            have p0 : wc.cell? ⟨p, 0, none⟩ = some (.int .i64 n) := (blk_cell hp4 0).trans rfl
            have p1 : wc.cell? ⟨p, 1, none⟩ = some (.int .i64 mm) := (blk_cell hp4 1).trans rfl
            obtain ⟨n2, hn2, hn3, hn4⟩ : ∃ n2 : Nat, (n : Int) % 32 + 1 = (n2 : Int) ∧ n2 ≠ n ∧ 1 ≤ n2 ∧ n2 ≤ 32 := ⟨n % 32 + 1, by omega, by omega, by omega, by omega⟩
            have HN2 := Aside0.mk hn2
            have HN3 := Aside0.mk hn3
            have hzw := HBw.out.size
            clear h3 hp3 hb3 hp4 HS hn2 hn3
            go_wp2_with fail
            rw [HN2.out]
            refine (q_new wc n2 mm hn4.1 hn4.2 hnm.2.2.1 hnm.2.2.2).mono ?_
            rintro e w4 ⟨b2, rfl, hb2, hq2, hu4⟩
            have H4 := Aside0.mk (H1.out.1.upd0 hu4)
            have HQ2 := Aside0.mk hq2
            have HU4 := Aside0.mk (HU.out.step hu4)
            clear hq2 hu4 H1 HU p0 p1
            go_wp2_with fail
            refine (same_room w4 _ _ b2 b n2 mm n mm [] q HQ2.out H4.out HN3.out).mono ?_
            rintro e w5 ⟨rfl, hu5⟩
            have HB5 := Aside0.mk (HBw.out.upd hzw (HU4.out.step hu5) (fun _ h => h.elim))
            clear hu5
            go_wp2_with fail
            go_ret
            exact ⟨rfl, HB5.out⟩
end Go.Proofs.Ytnnoeomjamlhbaa.RingClones
