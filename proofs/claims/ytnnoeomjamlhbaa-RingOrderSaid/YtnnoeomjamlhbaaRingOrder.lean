import Derived.Test.YtnnoeomjamlhbaaRingTold
set_option linter.unusedVariables false
set_option linter.unusedSimpArgs false
namespace Go.Proofs.Ytnnoeomjamlhbaa.RingOrder
attribute [local go_sem] Go.Proofs.Ytnnoeomjamlhbaa.Own.min_two Go.Proofs.Ytnnoeomjamlhbaa.Own.min2_mn
open Go.RowKit Go.Proofs.YtnnoeomjamlhbaaW.PrintWords Go.Proofs.Ytnnoeomjamlhbaa.Own Go.Proofs.Ytnnoeomjamlhbaa.SlU Go.Proofs.Ytnnoeomjamlhbaa.Ring Go.Proofs.Ytnnoeomjamlhbaa.RingQ Go.Proofs.Ytnnoeomjamlhbaa.RingTold

theorem take_map_succ {l : List (List Int)} {j : Nat} (h : j < l.length) (f : List Int → List Int) : (l.take (j + 1)).map f = (l.take j).map f ++ [f (l.getD j [])] := by
  rw [List.take_add_one, List.map_append, List.getElem?_eq_getElem h]
  simp [List.getD, List.getElem?_eq_getElem h]

/-- The Ring, and a list of messages that share what came in. -/
def RS (w wr : World) (b : Nat) (q : List (List Int)) (v : Value) (ins : List (List Int)) : Prop :=
  ∃ F G, RQ wr F b 32 32 q ∧ Kd.N mk 28 wr w.heap.size G v ins ∧ (∀ k, F k → ¬ G k) ∧ (∀ k, F k → w.heap.size ≤ k) ∧ Below w.heap.size w wr

/-- An element of a list of messages that came in. -/
theorem msg_at {w : World} {A : Option Addr} {n : Nat} {l : List (List Int)} (h : mk.C w A n l) (j : Nat) (hj : j < n) :
    ∃ ad A' c, A = some ad ∧ w.cell? (ad.add j) = some (.slice A' (l.getD j []).length c) ∧ (l.getD j []).length ≤ c ∧ nk.C w A' (l.getD j []).length (l.getD j []) := by
  obtain ⟨ad, cs, he, hcl, hK, hcc⟩ := Kd.C_get h [] (j : Int) (by omega) (by omega)
  rw [Int.toNat_natCast] at hK hcc
  obtain ⟨A', c, rfl, hle, hC⟩ := hK
  have h1 := hcc 0 _ rfl
  rw [show j * mk.sz + 0 = j by show j * 1 + 0 = j; omega] at h1
  exact ⟨ad, A', c, he, h1, hle, hC⟩

set_option maxRecDepth 20000 in
set_option maxHeartbeats 4000000 in
theorem walk (A : Option Addr) (c : Nat) (l0 : List (List Int)) (w : World) (hr : mk.C w A l0.length l0) (hc : l0.length ≤ c) (_ : ∀ y ∈ l0, ∀ z ∈ y, (Lit.int .u32 z).wf = true) :
    Calls Try.prog 3 #[.slice A l0.length c] w fun e w' => e = .returned (.bool true) ∧ Below w.heap.size w w' := by
  have hcut := cut_min 22 28 Try.underlying22 info28 A l0 c 32 32 rfl hc
  obtain ⟨l, hl⟩ : ∃ l, l = l0.take 32 := ⟨_, rfl⟩
  have hll : l.length ≤ 32 := by rw [hl, List.length_take]; omega
  have hlr : mk.C w A l.length l := by rw [hl]; exact C_take hr 32
  rw [← hl] at hcut
  have HR := Aside0.mk hlr
  clear hr hlr hl
  go_enter Try.func3, Try.ntmps3
  go_wp2_with fail
  refine (q_new w 32 32 (by omega) (by omega) (by omega) (by omega)).mono ?_
  rintro e w1 ⟨b, rfl, hb, h1, hu1⟩
  have H1 := Aside0.mk h1
  have U1 := Aside0.mk hu1
  clear h1 hu1
  go_wp2_with fail
  refine (told_calls w1).mono ?_
  rintro e w2 ⟨rfl, hu2⟩
  have HS : Aside0 (RS w w2 b [] (.slice none 0 0) []) := ⟨_, fun _ => False, H1.out.upd0 hu2, Kd.N_nil _ _ _ _ _, fun _ _ h => h, fun k hk => hk, (U1.out.step hu2).to_below (Nat.le_refl _) (fun _ h => h.elim)⟩
  clear H1 U1 hu2
  go_wp2_with fail
  go_loopg [5, 6] l.length (fun g v z wr => ∃ (j : Nat), z = .int .i64 j ∧ j ≤ l.length ∧ l.length - j ≤ g ∧ ∃ q, q = (l.take j).map (List.take 32) ∧ Aside0 (RS w wr b q v q))
  case atStart => exact ⟨0, rfl, Nat.zero_le _, by omega, [], by simp, HS⟩
  case round =>
    clear HS
    obtain ⟨j, rfl, hj, hg, q, hq, HS⟩ := hrel
    have hql : q.length = j := by rw [hq, List.length_map, List.length_take]; omega
    have HQ := Aside0.mk hq
    have HQL := Aside0.mk hql
    have hq32 : q.length ≤ 32 := by omega
    have hqlt : j < l.length → q.length < 32 := fun h => by omega
    have HQLT := Aside0.mk hqlt
    clear hq hql hqlt
    by_cases hlt : j < l.length
    · cases gk with
      | zero => omega
      | succ g1 =>
      obtain ⟨ad, A', c', rfl, hcell0, hle, hC⟩ := msg_at HR.out j hlt
      obtain ⟨m0, hm0⟩ : ∃ m0, m0 = l.getD j [] := ⟨_, rfl⟩
      rw [← hm0] at hcell0 hle hC
      have HM0 := Aside0.mk hm0
      clear hm0
      have hcut2 := cut_min 28 37 Try.underlying28 info A' m0 c' 32 32 rfl hle
      obtain ⟨m, hm⟩ : ∃ m, m = m0.take 32 := ⟨_, rfl⟩
      have hml : m.length ≤ 32 := by rw [hm, List.length_take]; omega
      have hmc : m.length ≤ c' := by rw [hm, List.length_take]; omega
      have hCm : nk.C w A' m.length m := by rw [hm]; exact C_take hC 32
      rw [← hm] at hcut2
      have HM := Aside0.mk hm
      have HCm := Aside0.mk hCm
      have hm0l := Kd.C_max hC
      clear hm hCm hC
      obtain ⟨F, G, h1, h2, hd, hF, hb⟩ := HS.out
      obtain ⟨Av, cv, rfl⟩ := Kd.N_slice h2
      have hcell := pw_cell_below hb hcell0
      have H1 := Aside0.mk h1
      have H2 := Aside0.mk h2
      have HD := Aside0.mk hd
      have HF := Aside0.mk hF
      have HB := Aside0.mk hb
      clear h1 h2 hd hF hb hcell0 HS
      have b0 : (0 : Int) ≤ (j : Int) := by omega
      have b1 : (j : Int) < (l.length : Int) := by omega
      go_wp2_with fail
      go_quiet (fail)
      go_wp2_with fail
      have hCX : nk.C (wr.drewN nq) A' m.length m := Kd.C_below HCm.out (HB.out.upd HB.out.size ((Upd.refl wr (fun _ => False)).drewN nq) (fun _ h => h.elim))
      refine (q_put (wr.drewN nq) _ b 32 32 q A' c' m (H1.out.bound.upd0 ((Upd.refl wr _).drewN nq)) hCX hml (HQLT.out hlt)).mono ?_
      rintro e w4 ⟨rfl, h4, hu4⟩
      have hz4 : wr.heap.size ≤ w4.heap.size := hu4.size
      have hzw := HB.out.size
      have hu4' : Upd wr w4 (fun k => F k ∧ k < wr.heap.size) := ((Upd.refl wr (fun k => F k ∧ k < wr.heap.size)).drewN nq).trans hu4 (fun k hk => .inl hk)
      have H4 := Aside0.mk h4.bound
      have N4 := Aside0.mk (Kd.N_kept (Kd.N_bound H2.out) hu4'.kept (fun k hk h => HD.out k h.1 hk.1))
      have B4 := Aside0.mk (HB.out.upd HB.out.size hu4' (fun k hk => HF.out k hk.1))
      have hNb := Kd.N_base H2.out
      have hNo := N4.out.1
      have FK4 := Aside0.mk (Kd.FK_slice_mk (e := 37) hmc (Kd.F_below (Kd.C_F (Kd.heap_int _) HCm.out) B4.out))
      have HNB := Aside0.mk hNb
      have HNO := Aside0.mk hNo
      clear hCX h4 hu4 hu4' hcell HCm H1 H2 HB hNb hNo
      go_wp2_with (at_builtin; refine Kd.N_append mk (w0 := w) w.heap.size rfl (.tmp 47) (.tmp 49) 22 28 (.slice none 0 0) 24 rfl Try.underlying22 info28 rfl (by decide) (by decide) (.slice Av q.length cv) q m [.slice A' m.length c'] (fun k => (G k ∧ k < wr.heap.size) ∨ w4.heap.size ≤ k ∨ k < w.heap.size) (fun k => k < w.heap.size) rfl rfl FK4.out ?hp (fun k hk => .inr (.inl hk)) (Kd.N_mono N4.out (fun k hk => .inl hk)) B4.out B4.out.size (by omega) ?hk)
      case hp => exact fun k hk => ⟨.inr (.inr hk), fun h => by have := HNB.out k h.symm; omega⟩
      case hk =>
        intro v5 w5 hN hB5 hg hat
        have hu5 : Upd w4 w5 (fun k => G k ∧ k < wr.heap.size) := Upd.of_grown hg (fun k hk => HNO.out k hk)
        have S5 : Aside0 (RS w w5 b (q ++ [m]) v5 (q ++ [m])) := ⟨_, _, H4.out.upd' hu5 (fun k hk _ h => by
            rcases hk.1 with h1 | h1
            · exact HD.out k h1.1 h.1
            · have h2 : wr.heap.size ≤ k := h1
              omega), hN, fun k hk h => by
            rcases hk.1 with h1 | h1
            · rcases h with h | h | h
              · exact HD.out k h1.1 h.1
              · omega
              · have := HF.out k h1.1
                omega
            · have h2 : wr.heap.size ≤ k := h1
              omega, fun k hk => by
            rcases hk.1 with h1 | h1
            · exact HF.out k h1.1
            · have h2 : wr.heap.size ≤ k := h1
              omega, hB5⟩
        clear hN hB5 hg hat hu5 H4 N4 B4 FK4 HNB HNO HD HF
        obtain ⟨q', hq'⟩ : ∃ q', q' = q ++ [m] := ⟨_, rfl⟩
        rw [← hq'] at S5
        have HQ' : Aside0 (q' = (l.take (j + 1)).map (List.take 32)) := ⟨by rw [hq', HQ.out, take_map_succ hlt, ← HM0.out, HM.out]⟩
        clear hq' hcut hcut2
        go_wp2_with fail
        go_roundg g1
        case rel => exact ⟨j + 1, by go_num, by omega, by omega, q', HQ'.out, S5⟩
        case measure => omega
    · clear HQLT hcut
      have HQE : Aside0 (q.length = l.length) := ⟨by rw [HQL.out]; omega⟩
      have e1 : decide ((j : Int) < (l.length : Int)) = false := by rw [decide_eq_false_iff_not]; omega
      have e2 : (l.length : Int) ≤ (j : Int) := by omega
      obtain ⟨F, G, h1, h2, hd, hF, hb⟩ := HS.out
      obtain ⟨Av, cv, rfl⟩ := Kd.N_slice h2
      have HS2 : Aside0 (RS w wr b (q.drop 0) (.slice Av q.length cv) q) := HS
      clear h1 h2 hd hF hb HS
      go_wp2_with fail
      go_loopg [8] q.length (fun g z wr => ∃ (i : Nat), z = .int .i64 i ∧ i ≤ q.length ∧ q.length - i ≤ g ∧ Aside0 (RS w wr b (q.drop i) (.slice Av q.length cv) q))
      case atStart => exact ⟨0, rfl, Nat.zero_le _, by omega, HS2⟩
      case round =>
        clear HS2
        obtain ⟨i, rfl, hi, hg2, HS⟩ := hrel
        obtain ⟨F, G, h1, h2, hd, hF, hb⟩ := HS.out
        have H2 := Aside0.mk h2
        have HD := Aside0.mk hd
        have HF := Aside0.mk hF
        have HB := Aside0.mk hb
        by_cases hlt2 : i < q.length
        · cases gk with
          | zero => omega
          | succ g1 =>
          obtain ⟨m, hm⟩ : ∃ m, m = q.getD i [] := ⟨_, rfl⟩
          have hdr : q.drop i = m :: q.drop (i + 1) := by
            rw [List.drop_eq_getElem_cons hlt2, hm]
            simp [List.getD, hlt2]
          rw [hdr] at h1
          have H1 := Aside0.mk h1
          have HM := Aside0.mk hm
          clear h1 h2 hd hF hb hm hdr HS
          have b0 : (0 : Int) ≤ (i : Int) := by omega
          have b1 : (i : Int) < (q.length : Int) := by omega
          have e3 : decide ((i : Int) < (q.length : Int)) = true := by rw [decide_eq_true_eq]; omega
          go_wp2_with fail
          refine (q_take wr _ b 32 32 m _ H1.out).mono ?_
          rintro e w4 ⟨v4, rfl, hr4, h4, hu4⟩
          obtain ⟨A4, c4, rfl⟩ := Kd.R_slice hr4
          have n4 := Kd.N_kept H2.out hu4.kept (fun k hk h => HD.out k h hk)
          have R4 := Aside0.mk (Kd.R_reads' hr4).2.2
          have S4 : Aside0 (RS w w4 b (q.drop (i + 1)) (.slice Av q.length cv) q) := ⟨F, G, h4, n4, HD.out, HF.out, HB.out.upd HB.out.size hu4 HF.out⟩
          obtain ⟨ad, A', c', rfl, hcell, _, hC⟩ := msg_at (Kd.N_reads' n4).2.2 i hlt2
          rw [← HM.out] at hcell hC
          have C4 := Aside0.mk hC
          clear hr4 h4 hu4 n4 hC H1 H2 HD HF HB
          go_wp2_with fail
          refine (SameR.same_calls A4 c4 m A' c' m w4 R4.out C4.out).mono ?_
          rw [show eqB m m = true by simp [eqB]]
          rintro e w5 ⟨rfl, hq⟩
          have hu5 := Upd.of_q hq
          have S5 : Aside0 (RS w w5 b (q.drop (i + 1)) (.slice (some ad) q.length cv) q) := ⟨by
            obtain ⟨F, G, h1, h2, hd, hF, hb⟩ := S4.out
            exact ⟨F, G, h1.upd0 hu5, Kd.N_kept h2 hu5.kept (fun _ _ h => h), hd, hF, hb.upd hb.size hu5 (fun _ h => h.elim)⟩⟩
          clear hq hu5 S4 R4 C4
          go_wp2_with fail
          go_roundg g1
          case rel => exact ⟨i + 1, by go_num, by omega, by omega, S5⟩
          case measure => omega
        · have hdr : q.drop i = [] := List.drop_eq_nil_of_le (by omega)
          rw [hdr] at h1
          have H1 := Aside0.mk h1
          clear h1 h2 hd hF hb hdr HS
          have e3 : decide ((i : Int) < (q.length : Int)) = false := by rw [decide_eq_false_iff_not]; omega
          have e4 : (q.length : Int) ≤ (i : Int) := by omega
          go_wp2_with fail
          refine (q_len wr _ b 32 32 _ H1.out).mono ?_
          rintro e w5 ⟨rfl, rfl⟩
          go_wp2_with fail
          go_ret
          exact ⟨rfl, HB.out⟩
end Go.Proofs.Ytnnoeomjamlhbaa.RingOrder
