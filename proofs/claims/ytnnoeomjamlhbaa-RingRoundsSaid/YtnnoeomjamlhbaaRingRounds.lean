import Derived.Test.YtnnoeomjamlhbaaRingTold
set_option linter.unusedVariables false
set_option linter.unusedSimpArgs false
namespace Go.Proofs.Ytnnoeomjamlhbaa.RingRounds
open Go.RowKit Go.Proofs.YtnnoeomjamlhbaaW.PrintWords Go.Proofs.Ytnnoeomjamlhbaa.Own Go.Proofs.Ytnnoeomjamlhbaa.SlU Go.Proofs.Ytnnoeomjamlhbaa.RingQ Go.Proofs.Ytnnoeomjamlhbaa.RingTold

/-- The messages [o], [o+1], .. up to i. -/
def seqQ (o i : Nat) : List (List Int) := (List.range (i - o)).map (fun k => [((o + k : Nat) : Int)])
theorem seq_len (o i : Nat) : (seqQ o i).length = i - o := by simp [seqQ]
theorem seq_nil (o : Nat) : seqQ o o = [] := by simp [seqQ]
theorem seq_put {o i : Nat} (h : o ≤ i) : seqQ o i ++ [[(i : Int)]] = seqQ o (i + 1) := by
  unfold seqQ
  rw [show i + 1 - o = (i - o) + 1 by omega, List.range_succ, List.map_append]
  simp only [List.map_cons, List.map_nil]
  rw [show o + (i - o) = i by omega]
theorem seq_take {o i : Nat} (h : o < i) : seqQ o i = [(o : Int)] :: seqQ (o + 1) i := by
  unfold seqQ
  rw [show i - o = (i - (o + 1)) + 1 by omega, List.range_succ_eq_map, List.map_cons, List.map_map]
  congr 1
  apply List.map_congr_left
  intro k _
  show [((o + (k + 1) : Nat) : Int)] = _
  rw [show o + (k + 1) = o + 1 + k by omega]

/-- The Ring, told from the law's begin. -/
def RS (w wr : World) (b n : Nat) (o i : Nat) : Prop := ∃ F, RQ wr F b n 1 (seqQ o i) ∧ (∀ k, F k → w.heap.size ≤ k) ∧ Below w.heap.size w wr

set_option maxRecDepth 20000 in
set_option maxHeartbeats 4000000 in
theorem walk (room : Int) (A : Option Addr) (c : Nat) (turns : List Bool) (w : World) (_ : (Lit.int .i64 room).wf = true) (hr : Kd.bool.C w A turns.length turns) (hc : turns.length ≤ c) (_ : ∀ y ∈ turns, True) :
    Calls Try.prog 4 #[.int .i64 room, .slice A turns.length c] w fun e w' => e = .returned (.bool true) ∧ Below w.heap.size w w' := by
  have hm := Kd.C_max hr
  have HR := Aside0.mk hr
  clear hr
  obtain ⟨r, hr1, hr2⟩ := u64_mod room 32 (by omega) (by omega)
  go_enter Try.func4, Try.ntmps4
  go_wp2_with fail
  rw [hr2]
  obtain ⟨n, hn⟩ : ∃ n : Nat, n = 1 + r := ⟨_, rfl⟩
  rw [show (1 : Int) + (r : Int) = (n : Int) by omega]
  have hn1 : 1 ≤ n := by omega
  have hn2 : n ≤ 32 := by omega
  clear hr2 hn hr1
  refine (q_new w n 1 hn1 hn2 (by omega) (by omega)).mono ?_
  rintro e w1 ⟨b, rfl, hb, h1, hu1⟩
  have H1 := Aside0.mk h1
  have U1 := Aside0.mk hu1
  clear h1 hu1
  go_wp2_with fail
  refine (told_calls w1).mono ?_
  rintro e w2 ⟨rfl, hu2⟩
  have HS : Aside0 (RS w w2 b n 0 0) := ⟨_, by rw [seq_nil]; exact H1.out.upd0 hu2, fun k hk => hk, (U1.out.step hu2).to_below (Nat.le_refl _) (fun _ h => h.elim)⟩
  clear H1 U1 hu2
  go_wp2_with fail
  go_loopg [8, 9, 10] turns.length (fun g x y z wr => ∃ (j o i : Nat), z = .int .i64 j ∧ x = .int .u32 i ∧ y = .int .u32 o ∧ j ≤ turns.length ∧ j ≤ 300 ∧ turns.length - j ≤ g ∧ o ≤ i ∧ i ≤ j ∧ i - o ≤ n ∧ Aside0 (RS w wr b n o i))
  case atStart => exact ⟨0, 0, 0, rfl, rfl, rfl, Nat.zero_le _, Nat.zero_le _, by omega, Nat.le_refl _, Nat.le_refl _, by omega, HS⟩
  case round =>
    clear HS
    obtain ⟨j, o, i, rfl, rfl, rfl, hj, hj3, hg, hoi, hij, hin, HS⟩ := hrel
    by_cases hlt : j < turns.length ∧ j < 300
    · obtain ⟨hlt, hlt2⟩ := hlt
      cases gk with
      | zero => omega
      | succ g1 =>
      obtain ⟨ad, rfl, hcell0⟩ := Kd.at_bool HR.out (j : Int) (by omega) (by omega)
      rw [Int.toNat_natCast] at hcell0
      obtain ⟨t, ht⟩ : ∃ t, t = rdOf false turns j := ⟨_, rfl⟩
      rw [← ht] at hcell0
      clear ht
      obtain ⟨F, hq, hF, hb⟩ := HS.out
      have hcell := pw_cell_below hb hcell0
      have HQ := Aside0.mk hq
      have HF := Aside0.mk hF
      have HB := Aside0.mk hb
      have hz := hb.size
      clear hq hF hb hcell0 HS
      have b0 : (0 : Int) ≤ (j : Int) := by omega
      have b1 : (j : Int) < (turns.length : Int) := by omega
      have e1 : decide ((j : Int) < (turns.length : Int)) = true := by rw [decide_eq_true_eq]; omega
      have e2 : decide ((j : Int) < 300) = true := by rw [decide_eq_true_eq]; omega
      have b2 : (j : Int) < 300 := by omega
      have o1 : (o : Int) ≤ (i : Int) := by omega
      have o2 : (i : Int) ≤ 300 := by omega
      have o3 : (0 : Int) ≤ (o : Int) := by omega
      cases t with
      | true =>
        by_cases hfull : i - o = n
        · have e3 : ((i : Int) - (o : Int) == (n : Int)) = true := by rw [beq_iff_eq]; omega
          have e4 : (i : Int) - (o : Int) = (n : Int) := by omega
          go_wp2_with fail
          refine (q_put_full (wr.alloc (.cells #[.int .u32 i] 37)) _ b n 1 _ _ 1 1 (HQ.out.upd0 ((Upd.refl wr _).alloc _)) (by omega) (by rw [seq_len]; exact hfull)).mono ?_
          rintro e w4 ⟨rfl, hq⟩
          have hu := ((Upd.refl wr (fun _ => False)).alloc (.cells #[.int .u32 i] 37)).step (Upd.of_q hq)
          have HQ4 := Aside0.mk (HQ.out.upd0 hu)
          have HB4 := Aside0.mk (HB.out.upd HB.out.size hu (fun _ h => h.elim))
          clear hq hu HQ HB
          go_wp2_with fail
          refine (q_len w4 _ b n 1 _ HQ4.out).mono ?_
          rw [seq_len, show ((i - o : Nat) : Int) = (i : Int) - (o : Int) by omega]
          rintro e w5 ⟨rfl, rfl⟩
          go_wp2_with fail
          go_roundg g1
          case rel => exact ⟨j + 1, o, i, by go_num, rfl, rfl, by omega, by omega, by omega, by omega, by omega, by omega, ⟨_, HQ4.out, HF.out, HB4.out⟩⟩
          case measure => omega
        · have e3 : ((i : Int) - (o : Int) == (n : Int)) = false := by rw [beq_eq_false_iff_ne]; omega
          have e4 : ¬ (i : Int) - (o : Int) = (n : Int) := by omega
          go_wp2_with fail
          refine (q_put (wr.alloc (.cells #[.int .u32 i] 37)) _ b n 1 _ _ 1 [(i : Int)] (HQ.out.bound.upd0 ((Upd.refl wr _).alloc _)) (C_litN .u32 wr 37 [(i : Int)] (by simp)) (by simp) (by rw [seq_len]; omega)).mono ?_
          rw [seq_put hoi]
          rintro e w4 ⟨rfl, h4, hu4⟩
          have hz4 : wr.heap.size ≤ (wr.alloc (.cells #[.int .u32 i] 37)).heap.size := Upd.size ((Upd.refl wr (fun _ => False)).alloc _)
          have hu := ((Upd.refl wr (fun k => F k ∧ k < wr.heap.size)).alloc (.cells #[.int .u32 i] 37)).trans hu4 (fun k hk => .inl hk)
          have HS4 : Aside0 (RS w w4 b n o (i + 1)) := ⟨_, h4, fun k hk => hk.elim (fun h => HF.out k h.1) (fun h => by omega), HB.out.upd HB.out.size hu (fun k hk => HF.out k hk.1)⟩
          have HQ4 := Aside0.mk h4
          clear h4 hu4 hu hz4 HQ HB
          go_wp2_with fail
          refine (q_len w4 _ b n 1 _ HQ4.out).mono ?_
          rw [seq_len, show ((i + 1 - o : Nat) : Int) = (i : Int) + 1 - (o : Int) by omega]
          rintro e w5 ⟨rfl, rfl⟩
          go_wp2_with fail
          go_roundg g1
          case rel => exact ⟨j + 1, o, i + 1, by go_num, by go_num, rfl, by omega, by omega, by omega, by omega, by omega, by omega, HS4⟩
          case measure => omega
      | false =>
        by_cases hemp : o = i
        · subst hemp
          have e3 : decide ((o : Int) < (o : Int)) = false := by simp
          rw [seq_nil] at HQ
          go_wp2_with fail
          refine (q_take0 wr _ b n 1 HQ.out).mono ?_
          rintro e w4 ⟨rfl, rfl⟩
          go_wp2_with fail
          refine (q_len wr _ b n 1 _ HQ.out).mono ?_
          rintro e w5 ⟨rfl, rfl⟩
          go_wp2_with fail
          go_roundg g1
          case rel => exact ⟨j + 1, o, o, by go_num, rfl, rfl, by omega, by omega, by omega, by omega, by omega, by omega, ⟨_, by rw [seq_nil]; exact HQ.out, HF.out, HB.out⟩⟩
          case measure => omega
        · have e3 : decide ((o : Int) < (i : Int)) = true := by rw [decide_eq_true_eq]; omega
          have e4 : (o : Int) < (i : Int) := by omega
          rw [seq_take (by omega)] at HQ
          go_wp2_with fail
          refine (q_take wr _ b n 1 _ _ HQ.out).mono ?_
          rintro e w4 ⟨v4, rfl, hr4, h4, hu4⟩
          obtain ⟨A4, c4, rfl⟩ := Kd.R_slice hr4
          have HR4 := Aside0.mk (Kd.R_reads' hr4).2.2
          have HQ4 := Aside0.mk h4
          have HB4 := Aside0.mk (HB.out.upd HB.out.size hu4 HF.out)
          clear hr4 h4 hu4 HQ HB
          go_wp2_with fail
          refine (SameR.same_calls A4 c4 [(o : Int)] _ _ [(o : Int)] _ (Kd.C_alloc HR4.out _) (C_litN .u32 w4 37 [(o : Int)] (by simp))).mono ?_
          rw [show eqB [(o : Int)] [(o : Int)] = true by simp [eqB]]
          rintro e w5 ⟨rfl, hq⟩
          have hu := ((Upd.refl w4 (fun _ => False)).alloc (.cells #[.int .u32 o] 37)).step (Upd.of_q hq)
          have HQ5 := Aside0.mk (HQ4.out.upd0 hu)
          have HB5 := Aside0.mk (HB4.out.upd HB4.out.size hu (fun _ h => h.elim))
          clear hq hu HQ4 HB4 HR4
          go_wp2_with fail
          refine (q_len w5 _ b n 1 _ HQ5.out).mono ?_
          rw [seq_len, show ((i - (o + 1) : Nat) : Int) = (i : Int) - ((o : Int) + 1) by omega]
          rintro e w6 ⟨rfl, rfl⟩
          go_wp2_with fail
          go_roundg g1
          case rel => exact ⟨j + 1, o + 1, i, by go_num, rfl, by go_num, by omega, by omega, by omega, by omega, by omega, by omega, ⟨_, HQ5.out, HF.out, HB5.out⟩⟩
          case measure => omega
    · obtain ⟨F, hq, hF, hb⟩ := HS.out
      have HB := Aside0.mk hb
      clear hq hF hb HS
      by_cases hlt1 : j < turns.length
      · have e1 : decide ((j : Int) < (turns.length : Int)) = true := by rw [decide_eq_true_eq]; omega
        have e2 : decide ((j : Int) < 300) = false := by rw [decide_eq_false_iff_not]; omega
        have e3 : (300 : Int) ≤ (j : Int) := by omega
        have e4 : (j : Int) < (turns.length : Int) := by omega
        go_wp2_with fail
        go_ret
        exact ⟨rfl, HB.out⟩
      · have e1 : decide ((j : Int) < (turns.length : Int)) = false := by rw [decide_eq_false_iff_not]; omega
        have e3 : (turns.length : Int) ≤ (j : Int) := by omega
        go_wp2_with fail
        go_ret
        exact ⟨rfl, HB.out⟩
end Go.Proofs.Ytnnoeomjamlhbaa.RingRounds
