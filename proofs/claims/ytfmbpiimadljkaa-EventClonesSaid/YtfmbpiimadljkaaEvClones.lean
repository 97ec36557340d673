import Derived.Test.YtfmbpiimadljkaaEvTwo
import Derived.Test.YtfmbpiimadljkaaEvNil
import Derived.Deep.RegionWith
import Derived.LaidEqlPtr
set_option linter.unusedVariables false
set_option linter.unusedSimpArgs false
namespace Go.Proofs.Ytfmbpiimadljkaa.EvClones
attribute [local go_sem ↓] Go.wp_at_zero Go.wp_at_succ
open Go.RowKit Go.Proofs.YtfmbpiimadljkaaW.PrintWords Go.Proofs.Ytfmbpiimadljkaa.Own Go.Proofs.Ytfmbpiimadljkaa.Ev Go.Proofs.Ytfmbpiimadljkaa.SlI Go.Proofs.Ytfmbpiimadljkaa.EvDrop Go.Proofs.Ytfmbpiimadljkaa.EvRef Go.Proofs.Ytfmbpiimadljkaa.EvCl Go.Proofs.Ytfmbpiimadljkaa.EvDo Go.Proofs.Ytfmbpiimadljkaa.EvTwo Go.Proofs.Ytfmbpiimadljkaa.EvNil

/-- The Event and the document's; the clone, and the document's. -/
def SS (w wr : World) (b p : Nat) (up : Bool) (l : List Int) (bc px : Nat) (up' : Bool) (l' : List Int) : Prop :=
  ∃ A c F G A' c' F' G', LF wr b p up l A c F G ∧ LF wr bc px up' l' A' c' F' G' ∧ (∀ k, F' k → ¬ F k ∧ ¬ G k ∧ k ≠ p) ∧ ¬ F px ∧ ¬ G px ∧ p ≠ px ∧ (∀ k, F' k → w.heap.size ≤ k) ∧ w.heap.size ≤ px ∧ Below w.heap.size w wr
theorem SS.upd {w wr w1 : World} {b p : Nat} {up : Bool} {l : List Int} {bc px : Nat} {up' : Bool} {l' : List Int} (h : SS w wr b p up l bc px up' l') (hu : Upd wr w1 (fun _ => False)) : SS w w1 b p up l bc px up' l' := by
  obtain ⟨A, c, F, G, A', c', F', G', h1, h2, hd, hx, hy, hpp, hF, hw, hb⟩ := h
  exact ⟨A, c, _, _, A', c', _, _, h1.upd0 hu, h2.upd0 hu, fun k hk => ⟨fun h => (hd k hk.1).1 h.1, fun h => (hd k hk.1).2.1 h.1, (hd k hk.1).2.2⟩, fun h => hx h.1, fun h => hy h.1, hpp, fun k hk => hF k hk.1, hw, hb.upd hb.size hu (fun _ h => h.elim)⟩

set_option maxRecDepth 20000 in
set_option maxHeartbeats 16000000 in
theorem walk (A0 : Option Addr) (c0 : Nat) (ops : List (Int × Int)) (B0 : Option Addr) (d0 : Nat) (then_ : List (Int × Int)) (w : World) (hr : (Kd.pair ints ints).C w A0 ops.length ops) (hc : ops.length ≤ c0) (_ : ∀ y ∈ ops, (Lit.int .i64 y.1).wf = true ∧ (Lit.int .i64 y.2).wf = true) (hr' : (Kd.pair ints ints).C w B0 then_.length then_) (hc' : then_.length ≤ d0) (_ : ∀ y ∈ then_, (Lit.int .i64 y.1).wf = true ∧ (Lit.int .i64 y.2).wf = true) :
    Calls Try.prog 6 #[.slice A0 ops.length c0, .slice B0 then_.length d0] w fun e w' => e = .returned (.bool true) ∧ Below w.heap.size w w' := by
  have HR := Aside0.mk hr
  have HR' := Aside0.mk hr'
  have hm := Kd.C_max hr
  have hm' := Kd.C_max hr'
  clear hr hr'
  have hu34 := Try.underlying34
  have hu38 := Try.underlying38
  go_enter Try.func6, Try.ntmps6
  go_wp2_with fail
  refine (new_calls w).mono ?_
  rintro e w1 ⟨rfl, ha1, hu1⟩
  have A1 := Aside0.mk ha1
  have U1 := Aside0.mk hu1
  clear ha1 hu1
  go_wp2_with fail
  refine (told_calls w1).mono ?_
  rintro e w2 ⟨rfl, hu2⟩
  have A2 := Aside0.mk (A1.out.bound.upd0 hu2)
  have U2 := Aside0.mk (U1.out.step hu2)
  have hz12 := hu2.size
  have hzw := U1.out.size
  have hb1 := A1.out.lt
  clear A1 U1 hu2
  go_wp2_with fail
  have hS : LS w (w2.alloc (.cells #[.bool false, .slice none 0 0] 34)) w.heap.size w2.heap.size false [] :=
    ⟨none, 0, _, fun _ => False, ⟨⟨A2.out.alloc _, Kd.R_nil _ _ _ _ _, fun _ _ h => h⟩, heap_alloc_new w2 _, fun h => by omega, fun h => h⟩, fun k hk => hk.1, fun _ h => h.elim, by omega, (U2.out.alloc _).to_below (Nat.le_refl _) (fun _ h => h.elim)⟩
  have HS := Aside0.mk hS
  clear hS
  go_loopg [7] ops.length (fun g i wr => ∃ (j : Nat) (up : Bool) (l : List Int), i = .int .i64 j ∧ j ≤ ops.length ∧ j ≤ 60 ∧ ops.length - j ≤ g ∧ l.length ≤ j ∧ Aside0 (LS w wr w.heap.size w2.heap.size up l))
  case atStart => exact ⟨0, false, [], rfl, Nat.zero_le _, Nat.zero_le _, by omega, by simp, HS⟩
  case round =>
  clear HS
  obtain ⟨j, up, l, rfl, hj, hj60, hg, hl, HS⟩ := hrel
  by_cases hlt : j < ops.length ∧ j < 60
  · obtain ⟨hlt, hlt2⟩ := hlt
    cases gk with
    | zero => omega
    | succ g1 =>
    have b0 : (0 : Int) ≤ (j : Int) := by omega
    have b1 : (j : Int) < (ops.length : Int) := by omega
    have b2 : (j : Int) < 60 := by omega
    have e1 : decide ((j : Int) < (ops.length : Int)) = true := by rw [decide_eq_true_eq]; omega
    have e2 : decide ((j : Int) < 60) = true := by rw [decide_eq_true_eq]; omega
    go_upto_region 8 with fail
    obtain ⟨ad, rfl, hc0, hc1⟩ := ints2_at HR.out j hlt
    obtain ⟨A, c, F, G, h2, hF, hG, hwp, hbw⟩ := HS.out
    obtain ⟨kd, id, hop⟩ : ∃ kd id, ops[j] = (kd, id) := ⟨_, _, rfl⟩
    rw [hop] at hc0 hc1
    have d0 := pw_cell_below hbw hc0
    have d1 := pw_cell_below hbw hc1
    have p0 : wr.cell? ⟨w2.heap.size, 0, none⟩ = some (.bool up) := blk_cell h2.2.1 0
    have p1 : wr.cell? ⟨w2.heap.size, 1, none⟩ = some (.slice A l.length c) := blk_cell h2.2.1 1
    obtain ⟨up2, l2, hl2, hdo⟩ := LF.do kd id up l (by omega)
    have HDO : Aside0 (∀ X, Upd wr X (fun _ => False) → Calls Try.prog 20 #[.pointer (some ⟨w.heap.size, 0, none⟩), .agg #[.bool up, .slice A l.length c], .agg #[.int .i64 kd, .int .i64 id]] X (fun e w4 => ∃ A2 c2, e = .returned (.tuple #[.agg #[.bool up2, .slice A2 l2.length c2], .bool true]) ∧ w4.frozen? ⟨w2.heap.size, 0, none⟩ = false ∧ w4.frozen? ⟨w2.heap.size, 1, none⟩ = false ∧ (∃ v, w4.cell? ⟨w2.heap.size, 0, none⟩ = some (.bool v)) ∧ (∃ A' n' c', w4.cell? ⟨w2.heap.size, 1, none⟩ = some (.slice A' n' c')) ∧
        LS w ((w4.setCell ⟨w2.heap.size, 0, none⟩ (.bool up2)).setCell ⟨w2.heap.size, 1, none⟩ (.slice A2 l2.length c2)) w.heap.size w2.heap.size up2 l2)) := ⟨by
      intro X hX
      refine (hdo wr _ _ A c F G h2 X hX).mono ?_
      rintro e w4 ⟨A2, c2, rfl, hp4, F2, G2, h4, hF2, hG2, hu4⟩
      refine ⟨A2, c2, rfl, blk_frozen hp4 0, blk_frozen hp4 1, ⟨_, blk_cell hp4 0⟩, ⟨_, _, _, blk_cell hp4 1⟩, A2, c2, F2, G2, h4, fun k hk => ?_, fun k hk => ?_, hwp, hbw.upd hbw.size hu4 (fun k hk => hk.elim (fun h => hF k h) (fun h => by rw [h]; exact hwp))⟩
      · have := hbw.size
        exact (hF2 k hk).elim (hF k) (fun h => by omega)
      · have := hbw.size
        exact (hG2 k hk).elim (hG k) (fun h => by omega)⟩
    clear h2 hF hG hbw hop hc0 hc1 HS hdo
    first | go_region_with (first
      | (go_at_call 20; refine (HDO.out _ (Upd.refl _ _).drew).mono ?_; rintro e w4 ⟨A2, c2, rfl, f0, f1, ⟨y0, k0⟩, ⟨y1, y2, y3, k1⟩, hs⟩; have S4 := Aside0.mk hs; clear hs)) | fail
    all_goals
      try simp only [Act.put, List.setIfInBounds_toArray, List.set_cons_zero, List.set_cons_succ]
      clear p0 p1 d0 d1 HDO
      go_wp2_with fail
      go_roundg g1
      case rel => exact ⟨j + 1, up2, l2, by go_num, by omega, by omega, by omega, by omega, S4⟩
      case measure => omega
  · go_upto_region 6 with fail
    go_cut [26] (fun s wc => s = .bool false ∧ wc = wr)
    case first =>
      by_cases hlt1 : j < ops.length
      · have e1 : decide ((j : Int) < (ops.length : Int)) = true := by rw [decide_eq_true_eq]; omega
        have e2 : decide ((j : Int) < 60) = false := by rw [decide_eq_false_iff_not]; omega
        have e3 : (60 : Int) ≤ (j : Int) := by omega
        have e4 : (j : Int) < (ops.length : Int) := by omega
        go_wp2_with fail
        go_meet
        exact ⟨rfl, rfl⟩
      · have e1 : decide ((j : Int) < (ops.length : Int)) = false := by rw [decide_eq_false_iff_not]; omega
        have e3 : (ops.length : Int) ≤ (j : Int) := by omega
        go_wp2_with fail
        go_meet
        exact ⟨rfl, rfl⟩
    case rest =>
      obtain ⟨rfl, rfl⟩ := hcut
      clear hg hlt
      obtain ⟨A, c, F, G, h2, hF, hG, hwp, hbw⟩ := HS.out
      clear HS
      have hlt1 := h2.1.1.lt
      have hlt2 := blk_lt h2.2.1
      have HT := Aside0.mk h2
      have HF := Aside0.mk hF
      have HG := Aside0.mk hG
      have BE := Aside0.mk hbw
      clear h2 hF hG hbw
      go_wp2_with fail
      refine (clone_calls wc _ _ _ _ HT.out.1.1 (by omega)).mono ?_
      rintro e w5 ⟨bc, rfl, hbc, hac, huc⟩
      have hbc' : bc < w5.heap.size := hac.lt
      have hne : ¬ bc = w.heap.size := by omega
      have hne' : (bc == w.heap.size) = false := by rw [beq_eq_false_iff_ne]; omega
      have AC := Aside0.mk hac.bound
      have HT5 := Aside0.mk (HT.out.upd0 huc)
      have BE5 := Aside0.mk (BE.out.upd BE.out.size huc (fun _ h => h.elim))
      have hz0 := BE.out.size
      have hE : (binOp .eql 23 (.pointer (some ⟨bc, 0, none⟩)) (.pointer (some ⟨w.heap.size, 0, none⟩))).run Try.prog w5 = .ok (.bool false) w5 := by
        obtain ⟨_, A1', c1', hb1, _⟩ := at_open AC.out
        obtain ⟨_, A2', c2', hb2, _⟩ := at_open HT5.out.1.1
        obtain ⟨i, hi, his⟩ : ∃ i, Try.prog.info? 45 = some i ∧ i.size = 2 := ⟨_, rfl, rfl⟩
        exact run_eql_ptr_other w5 Try.underlying23 hi (by rw [his]; decide) (fun h => hne (by injection h)) hb1 hb2
      clear hac huc HT BE
      go_wp2_with fail
      refine (same_calls w5 _ _ _ _ _ _ _ _ AC.out HT5.out.1.1).mono ?_
      rw [show sameB up l up l = true by simp [sameB, eqB]]
      rintro e w6 ⟨rfl, hq⟩
      have hu6 := Upd.of_q hq
      have hz6 := hu6.size
      have AC6 := Aside0.mk (AC.out.upd0 hu6)
      have HT6 := Aside0.mk (HT5.out.upd0 hu6)
      have BE6 := Aside0.mk (BE5.out.upd BE5.out.size hu6 (fun _ h => h.elim))
      clear hq hu6 AC HT5 BE5
      go_wp2_with fail
      refine (same_calls w6 _ _ _ _ _ _ _ _ HT6.out.1.1 AC6.out).mono ?_
      rw [show sameB up l up l = true by simp [sameB, eqB]]
      rintro e w7 ⟨rfl, hq⟩
      have hu7 := Upd.of_q hq
      have hz7 := hu7.size
      have AC7 := Aside0.mk (AC6.out.upd0 hu7)
      have HT7 := Aside0.mk (HT6.out.upd0 hu7)
      have BE7 := Aside0.mk (BE6.out.upd BE6.out.size hu7 (fun _ h => h.elim))
      clear hq hu7 AC6 HT6 BE6
      go_wp2_with fail
      refine (same_nil w7 _).mono ?_
      rintro e w8 ⟨rfl, rfl⟩
      have p0 : w7.cell? ⟨w2.heap.size, 0, none⟩ = some (.bool up) := blk_cell HT7.out.2.1 0
      have p1 : w7.cell? ⟨w2.heap.size, 1, none⟩ = some (.slice A l.length c) := blk_cell HT7.out.2.1 1
      go_wp2_with fail
      obtain ⟨WX, hWX⟩ : ∃ WX, WX = w7.alloc (.cells #[.bool up, .slice A l.length c] 34) := ⟨_, rfl⟩
      rw [← hWX]
      have hUX : Upd w7 WX (fun _ => False) := by
        rw [hWX]
        exact (Upd.refl w7 (fun _ => False)).alloc _
      have hPX : WX.heap[w7.heap.size]? = some (.cells #[.bool up, .slice A l.length c] 34 (0, 0)) := by
        rw [hWX]
        exact heap_alloc_new w7 _
      clear hWX
      have hTX := HT7.out.upd0 hUX
      have hAX := AC7.out.upd0 hUX
      have hBX : Below w.heap.size w WX := BE7.out.upd BE7.out.size hUX (fun _ h => h.elim)
      have hzX := BE7.out.size
      have hSS : SS w WX w.heap.size w2.heap.size up l bc w7.heap.size up l :=
        ⟨A, c, _, _, A, c, fun k => wc.heap.size ≤ k ∧ k < w5.heap.size, _, hTX, ⟨⟨hAX, hTX.1.2.1, fun k hk hg => by omega⟩, hPX, fun h => by omega, fun h => by omega⟩, fun k hk => ⟨fun h => by omega, fun h => by omega, by omega⟩, fun h => by omega, fun h => by omega, by omega, fun k hk => by omega, by omega, hBX⟩
      have HS := Aside0.mk hSS
      clear hUX hPX hTX hAX hBX hSS HT7 AC7 BE7 p0 p1 hE HF HG
      have hll : l.length ≤ 60 := by omega
      clear hl hj hj60
      go_loopg [10] then_.length (fun g i wr => ∃ (j : Nat) (up' : Bool) (l' : List Int), i = .int .i64 j ∧ j ≤ then_.length ∧ j ≤ 60 ∧ then_.length - j ≤ g ∧ l'.length ≤ 60 + j ∧ Aside0 (SS w wr w.heap.size w2.heap.size up l bc w7.heap.size up' l'))
      case atStart => exact ⟨0, up, l, rfl, Nat.zero_le _, Nat.zero_le _, by omega, by omega, HS⟩
      case round =>
      clear HS
      obtain ⟨j, up', l', rfl, hj, hj60, hg, hl, HS⟩ := hrel
      by_cases hlt : j < then_.length ∧ j < 60
      · obtain ⟨hlt, hlt2⟩ := hlt
        cases gk with
        | zero => omega
        | succ g1 =>
        have b0 : (0 : Int) ≤ (j : Int) := by omega
        have b1 : (j : Int) < (then_.length : Int) := by omega
        have b2 : (j : Int) < 60 := by omega
        have e1 : decide ((j : Int) < (then_.length : Int)) = true := by rw [decide_eq_true_eq]; omega
        have e2 : decide ((j : Int) < 60) = true := by rw [decide_eq_true_eq]; omega
        go_upto_region 16 with fail
        obtain ⟨ad, rfl, hc0, hc1⟩ := ints2_at HR'.out j hlt
        obtain ⟨A, c, F, G, A', c', F', G', h1, h2, hd, hx, hy, hpp, hF, hwp, hbw⟩ := HS.out
        obtain ⟨kd, id, hop⟩ : ∃ kd id, then_[j] = (kd, id) := ⟨_, _, rfl⟩
        rw [hop] at hc0 hc1
        have q0 := pw_cell_below hbw hc0
        have q1 := pw_cell_below hbw hc1
        have p0 : wr.cell? ⟨w7.heap.size, 0, none⟩ = some (.bool up') := blk_cell h2.2.1 0
        have p1 : wr.cell? ⟨w7.heap.size, 1, none⟩ = some (.slice A' l'.length c') := blk_cell h2.2.1 1
        obtain ⟨up2, l2, hl2, hdo⟩ := LF.do kd id up' l' (by omega)
        have HDO : Aside0 (∀ X, Upd wr X (fun _ => False) → Calls Try.prog 20 #[.pointer (some ⟨bc, 0, none⟩), .agg #[.bool up', .slice A' l'.length c'], .agg #[.int .i64 kd, .int .i64 id]] X (fun e w4 => ∃ A2 c2, e = .returned (.tuple #[.agg #[.bool up2, .slice A2 l2.length c2], .bool true]) ∧ w4.frozen? ⟨w7.heap.size, 0, none⟩ = false ∧ w4.frozen? ⟨w7.heap.size, 1, none⟩ = false ∧ (∃ v, w4.cell? ⟨w7.heap.size, 0, none⟩ = some (.bool v)) ∧ (∃ A' n' c', w4.cell? ⟨w7.heap.size, 1, none⟩ = some (.slice A' n' c')) ∧
            SS w ((w4.setCell ⟨w7.heap.size, 0, none⟩ (.bool up2)).setCell ⟨w7.heap.size, 1, none⟩ (.slice A2 l2.length c2)) w.heap.size w2.heap.size up l bc w7.heap.size up2 l2)) := ⟨by
          intro X hX
          refine (hdo wr _ _ A' c' F' G' h2 X hX).mono ?_
          rintro e w4 ⟨A2, c2, rfl, hp4, F2, G2, h4, hF2, hG2, hu4⟩
          have hz := hbw.size
          have hpl := blk_lt h1.2.1
          refine ⟨A2, c2, rfl, blk_frozen hp4 0, blk_frozen hp4 1, ⟨_, blk_cell hp4 0⟩, ⟨_, _, _, blk_cell hp4 1⟩, A, c, _, _, A2, c2, F2, G2, h1.upd hu4 (fun k hk _ h => ?_) (fun k hk _ h => ?_) (fun h => ?_), h4, fun k hk => ⟨fun h => ?_, fun h => ?_, ?_⟩, fun h => hx h.1, fun h => hy h.1, hpp, fun k hk => ?_, hwp, hbw.upd hbw.size hu4 (fun k hk => hk.elim (fun h => hF k h) (fun h => by rw [h]; exact hwp))⟩
          · rcases h with h | h
            · exact (hd k h).1 hk
            · exact hx (h ▸ hk)
          · rcases h with h | h
            · exact (hd k h).2.1 hk
            · exact hy (h ▸ hk)
          · rcases h with h | h
            · exact (hd _ h).2.2 rfl
            · exact hpp h
          · exact (hF2 k hk).elim (fun h' => (hd k h').1 h.1) (fun h' => by omega)
          · exact (hF2 k hk).elim (fun h' => (hd k h').2.1 h.1) (fun h' => by omega)
          · exact (hF2 k hk).elim (fun h' => (hd k h').2.2) (fun h' => by omega)
          · exact (hF2 k hk).elim (fun h' => hF k h') (fun h' => by omega)⟩
        clear h1 h2 hd hx hy hpp hF hwp hbw hop hc0 hc1 HS hdo
        go_cut [] (fun wc => SS w wc w.heap.size w2.heap.size up l bc w7.heap.size up2 l2)
        case first =>
          first | go_region_with (first
            | (go_at_call 20; refine (HDO.out _ (Upd.refl _ _).drew).mono ?_; rintro e w4 ⟨A2, c2, rfl, f0, f1, ⟨y0, k0⟩, ⟨y1, y2, y3, k1⟩, hs⟩; have S4 := Aside0.mk hs; clear hs)) | fail
          all_goals
            try simp only [Act.put, List.setIfInBounds_toArray, List.set_cons_zero, List.set_cons_succ]
            go_wp2_with fail
            go_meet
            exact S4.out
        case rest =>
          clear p0 p1 q0 q1 HDO
          have S4 := Aside0.mk hcut
          clear hcut
          go_upto_region 17 with fail
          obtain ⟨A, c, F, G, A', c', F', G', h1, h2, hd, hx, hy, hpp, hF, hwp, hbw⟩ := S4.out
          have r0 : wc.cell? ⟨w2.heap.size, 0, none⟩ = some (.bool up) := blk_cell h1.2.1 0
          have r1 : wc.cell? ⟨w2.heap.size, 1, none⟩ = some (.slice A l.length c) := blk_cell h1.2.1 1
          have x0 : wc.cell? ⟨w7.heap.size, 0, none⟩ = some (.bool up2) := blk_cell h2.2.1 0
          have x1 : wc.cell? ⟨w7.heap.size, 1, none⟩ = some (.slice A' l2.length c') := blk_cell h2.2.1 1
          have RA := Aside0.mk (Kd.R_reads' h1.1.2.1).2.2
          have RB := Aside0.mk (Kd.R_reads' h2.1.2.1).2.2
          clear h1 h2 hd hx hy hpp hF hwp hbw
          go_cut [11] (fun s11 wd => s11 = .bool (sameB up l up2 l2) ∧ SS w wd w.heap.size w2.heap.size up l bc w7.heap.size up2 l2)
          case first =>
            cases up <;> cases up2
            · go_wp2_with fail
              refine (SameR.same_calls A c l A' c' l2 wc RA.out RB.out).mono ?_
              rintro e w9 ⟨rfl, hq⟩
              have S9 := Aside0.mk (S4.out.upd (Upd.of_q hq))
              clear hq
              go_wp2_with fail
              go_meet
              exact ⟨by simp [sameB], S9.out⟩
            · go_wp2_with fail
              go_meet
              exact ⟨by simp [sameB], S4.out⟩
            · go_wp2_with fail
              go_meet
              exact ⟨by simp [sameB], S4.out⟩
            · go_wp2_with fail
              refine (SameR.same_calls A c l A' c' l2 wc RA.out RB.out).mono ?_
              rintro e w9 ⟨rfl, hq⟩
              have S9 := Aside0.mk (S4.out.upd (Upd.of_q hq))
              clear hq
              go_wp2_with fail
              go_meet
              exact ⟨by simp [sameB], S9.out⟩
          case rest =>
            clear r0 r1 x0 x1 RA RB S4
            obtain ⟨rfl, hs5⟩ := hcut
            have S5 := Aside0.mk hs5
            obtain ⟨A, c, F, G, A', c', F', G', h1, h2, hd, hx, hy, hpp, hF, hwp, hbw⟩ := hs5
            have r0 : wc.cell? ⟨w2.heap.size, 0, none⟩ = some (.bool up) := blk_cell h1.2.1 0
            have r1 : wc.cell? ⟨w2.heap.size, 1, none⟩ = some (.slice A l.length c) := blk_cell h1.2.1 1
            have HE := Aside0.mk h1.1.1
            have HRF := Aside0.mk h1.1.2.1
            have HC := Aside0.mk h2.1.1
            clear h1 h2 hd hx hy hpp hF hwp hbw
            obtain ⟨s, hs⟩ : ∃ s, sameB up l up2 l2 = s := ⟨_, rfl⟩
            have hs' : sameB up2 l2 up l = s := by
              rw [← hs]
              unfold sameB eqB
              rw [Bool.eq_iff_iff]
              simp only [Bool.and_eq_true, beq_iff_eq, decide_eq_true_eq]
              constructor <;> (rintro ⟨h1, h2⟩; exact ⟨h1.symm, h2.symm⟩)
            rw [hs]
            have HS1 := Aside0.mk hs
            have HS2 := Aside0.mk hs'
            clear hs hs'
            have hl9 : l.length ≤ 1000000 := by omega
            go_upto_region 18 with fail
            go_region_held3 (fun w' => w'.cell? ⟨w2.heap.size, 0, none⟩ = some (.bool up) ∧ w'.cell? ⟨w2.heap.size, 1, none⟩ = some (.slice A l.length c)) (first | exact ⟨k0, k1⟩ | exact ⟨k2, k3⟩ | exact ⟨k4, k5⟩ | exact ⟨k6, k7⟩ | go_keep)
              (first
                | (go_at_call 19; refine (up_calls _ _ _ _ _ (HE.out.upd0 ?_)).mono ?_; exact (Upd.refl _ _).drew; rintro e w4 ⟨rfl, rfl⟩)
                | (go_at_call 16; refine (waiting_calls _ _ _ _ _ (HE.out.upd0 ?_) hl9).mono ?_; exact (Upd.refl _ _).drew; rintro e w5 ⟨v5, rfl, hr5, hu5⟩; obtain ⟨A5, c5, rfl⟩ := Kd.R_slice hr5; have k0 := cell_upd0 hu5 r0; have k1 := cell_upd0 hu5 r1; have HW5 := Aside0.mk (((Upd.refl wc (fun _ => False)).drew).step hu5); have HR5 := Aside0.mk hr5; clear hr5 hu5)
                | (go_at_call 15; refine (SameR.same_calls _ _ l _ _ l _ (Kd.R_reads' HR5.out).2.2 (Kd.R_reads' (R_upd0 HRF.out HW5.out)).2.2).mono ?_; rw [show eqB l l = true by simp [eqB]]; rintro e w6' ⟨rfl, hq6⟩; have hu6 := Upd.of_q hq6; have k2 := cell_upd0 hu6 k0; have k3 := cell_upd0 hu6 k1; have HW6 := Aside0.mk (HW5.out.step hu6); clear hq6 hu6 k0 k1)
                | (go_at_call 22; have hx := HW7.out; refine (EvCl.same_calls _ _ _ _ _ _ _ _ _ (HC.out.upd0 hx) (HE.out.upd0 hx)).mono ?_; rw [HS2.out]; rintro e w8 ⟨rfl, hq8⟩; have hu8 := Upd.of_q hq8; have k6 := cell_upd0 hu8 k4; have k7 := cell_upd0 hu8 k5; have HW8 := Aside0.mk (hx.step hu8); clear hx hq8 hu8 k4 k5)
                | (go_at_call 22; refine (EvCl.same_calls _ _ _ _ _ _ _ _ _ (HE.out.upd0 HW6.out) (HC.out.upd0 HW6.out)).mono ?_; rw [HS1.out]; rintro e w7' ⟨rfl, hq7⟩; have hu7 := Upd.of_q hq7; have k4 := cell_upd0 hu7 k2; have k5 := cell_upd0 hu7 k3; have HW7 := Aside0.mk (HW6.out.step hu7); clear hq7 hu7 k2 k3))
            all_goals
              try simp only [Act.put, List.setIfInBounds_toArray, List.set_cons_zero, List.set_cons_succ]
              go_wp2_with fail
              go_roundg g1
              case rel => exact ⟨j + 1, up2, l2, by go_num, by omega, by omega, by omega, by omega, ⟨S5.out.upd HW8.out⟩⟩
              case measure => omega
      · obtain ⟨A, c, F, G, A', c', F', G', h1, h2, hd, hx, hy, hpp, hF, hwp, hbw⟩ := HS.out
        have HB := Aside0.mk hbw
        clear h1 h2 hd hx hy hpp hF hwp hbw HS
        by_cases hlt1 : j < then_.length
        · have e1 : decide ((j : Int) < (then_.length : Int)) = true := by rw [decide_eq_true_eq]; omega
          have e2 : decide ((j : Int) < 60) = false := by rw [decide_eq_false_iff_not]; omega
          have e3 : (60 : Int) ≤ (j : Int) := by omega
          have e4 : (j : Int) < (then_.length : Int) := by omega
          go_wp2_with fail
          go_ret
          exact ⟨rfl, HB.out⟩
        · have e1 : decide ((j : Int) < (then_.length : Int)) = false := by rw [decide_eq_false_iff_not]; omega
          have e3 : (then_.length : Int) ≤ (j : Int) := by omega
          go_wp2_with fail
          go_ret
          exact ⟨rfl, HB.out⟩
end Go.Proofs.Ytfmbpiimadljkaa.EvClones
