import Derived.Test.YtnnoeomjamlhbaaRingCl
set_option linter.unusedVariables false
set_option linter.unusedSimpArgs false
namespace Go.Proofs.Ytnnoeomjamlhbaa.RingNews
attribute [local go_sem ↓] Go.wp_at_zero Go.wp_at_succ
open Go.RowKit Go.Proofs.YtnnoeomjamlhbaaW.PrintWords Go.Proofs.Ytnnoeomjamlhbaa.Own Go.Proofs.Ytnnoeomjamlhbaa.Own2 Go.Proofs.Ytnnoeomjamlhbaa.SlU Go.Proofs.Ytnnoeomjamlhbaa.Ring Go.Proofs.Ytnnoeomjamlhbaa.RingQ Go.Proofs.Ytnnoeomjamlhbaa.RingTold Go.Proofs.Ytnnoeomjamlhbaa.RingAll Go.Proofs.Ytnnoeomjamlhbaa.RingClr Go.Proofs.Ytnnoeomjamlhbaa.RingSt Go.Proofs.Ytnnoeomjamlhbaa.RingDo Go.Proofs.Ytnnoeomjamlhbaa.RingLs Go.Proofs.Ytnnoeomjamlhbaa.RingCl

theorem nil_len (w : World) : Calls Try.prog 14 #[.pointer none] w fun e w' => e = .returned (.int .i64 0) ∧ w = w' := by
  go_enter Try.func14, Try.ntmps14
  go_wp2_with fail
  go_ret
  exact ⟨rfl, rfl⟩
theorem nil_room (w : World) : Calls Try.prog 20 #[.pointer none] w fun e w' => e = .returned (.int .i64 0) ∧ w = w' := by
  go_enter Try.func20, Try.ntmps20
  go_wp2_with fail
  go_ret
  exact ⟨rfl, rfl⟩
theorem nil_words (w : World) : Calls Try.prog 21 #[.pointer none] w fun e w' => e = .returned (.int .i64 0) ∧ w = w' := by
  go_enter Try.func21, Try.ntmps21
  go_wp2_with fail
  go_ret
  exact ⟨rfl, rfl⟩
theorem nil_clear (w : World) : Calls Try.prog 24 #[.pointer none] w fun e w' => e = .returned (.tuple #[]) ∧ w = w' := by
  go_enter Try.func24, Try.ntmps24
  go_wp2_with fail
  exact bodyPost_ret (v := .tuple #[]) (by simp [results, Try.results24, go_sem]) rfl ⟨rfl, rfl⟩
theorem nil_peek (w : World) : Calls Try.prog 15 #[.pointer none] w fun e w' => e = .returned (.tuple #[.slice none 0 0, .bool false]) ∧ w = w' := by
  go_enter Try.func15, Try.ntmps15
  go_wp2_with (go_at_call 14; refine (nil_len _).mono ?_; rintro e w' ⟨rfl, rfl⟩)
  go_ret2
  exact ⟨rfl, rfl⟩
theorem nil_take (w : World) : Calls Try.prog 12 #[.pointer none] w fun e w' => e = .returned (.tuple #[.slice none 0 0, .bool false]) ∧ w = w' := by
  go_enter Try.func12, Try.ntmps12
  go_wp2_with (go_at_call 15; refine (nil_peek _).mono ?_; rintro e w' ⟨rfl, rfl⟩)
  go_ret2
  exact ⟨rfl, rfl⟩
theorem nil_put (w : World) : Calls Try.prog 11 #[.pointer none, .slice none 0 0] w fun e w' => e = .returned (.int .i64 1) ∧ w = w' := by
  go_enter Try.func11, Try.ntmps11
  go_wp2_with fail
  go_ret
  exact ⟨rfl, rfl⟩
theorem nil_clone (w : World) : Calls Try.prog 22 #[.pointer none] w fun e w' => e = .returned (.pointer none) ∧ w = w' := by
  go_enter Try.func22, Try.ntmps22
  go_wp2_with fail
  go_ret
  exact ⟨rfl, rfl⟩
theorem nil_all (w : World) : Calls Try.prog 16 #[.pointer none] w fun e w' => e = .returned (.slice none 0 0) ∧ w = w' := by
  go_enter Try.func16, Try.ntmps16
  go_wp2_with (go_at_call 14; refine (nil_len _).mono ?_; rintro e w' ⟨rfl, rfl⟩)
  go_loopg [3, 7] 0 (fun g v z wr => v = .slice none 0 0 ∧ z = .int .i64 0 ∧ wr = w)
  case atStart => exact ⟨rfl, rfl, rfl⟩
  case round =>
    obtain ⟨rfl, rfl, rfl⟩ := hrel
    go_wp2_with fail
    go_ret
    exact ⟨rfl, rfl⟩
/-- A Ring that may not be. -/
theorem new_not (w : World) (n m : Int) (h : ¬ (1 ≤ n ∧ n ≤ 32 ∧ 1 ≤ m ∧ m ≤ 32)) :
    Calls Try.prog 9 #[.int .i64 n, .int .i64 m] w fun e w' => e = .returned (.tuple #[.pointer none, .int .i64 1]) ∧ w = w' := by
  by_cases h1 : n < 1
  · have d1 : decide (n < 1) = true := by rw [decide_eq_true_eq]; omega
    go_enter Try.func9, Try.ntmps9
    go_wp2_with fail
    go_ret2
    exact ⟨rfl, rfl⟩
  · have d1 : decide (n < 1) = false := by rw [decide_eq_false_iff_not]; omega
    by_cases h2 : n > 32
    · have d2 : decide (n > 32) = true := by rw [decide_eq_true_eq]; omega
      have d2' : decide (32 < n) = true := by rw [decide_eq_true_eq]; omega
      go_enter Try.func9, Try.ntmps9
      go_wp2_with fail
      go_ret2
      exact ⟨rfl, rfl⟩
    · have d2 : decide (n > 32) = false := by rw [decide_eq_false_iff_not]; omega
      have d2' : decide (32 < n) = false := by rw [decide_eq_false_iff_not]; omega
      by_cases h3 : m < 1
      · have d3 : decide (m < 1) = true := by rw [decide_eq_true_eq]; omega
        go_enter Try.func9, Try.ntmps9
        go_wp2_with fail
        go_ret2
        exact ⟨rfl, rfl⟩
      · have d3 : decide (m < 1) = false := by rw [decide_eq_false_iff_not]; omega
        have d4 : decide (m > 32) = true := by rw [decide_eq_true_eq]; omega
        have d4' : decide (32 < m) = true := by rw [decide_eq_true_eq]; omega
        have e4 : 32 < m := by omega
        clear h
        go_enter Try.func9, Try.ntmps9
        go_wp2_with fail
        go_ret2
        exact ⟨rfl, rfl⟩

set_option maxRecDepth 20000 in
set_option maxHeartbeats 4000000 in
theorem walk (n m : Int) (w : World) (_ : (Lit.int .i64 n).wf = true) (_ : (Lit.int .i64 m).wf = true) :
    Calls Try.prog 8 #[.int .i64 n, .int .i64 m] w fun e w' => e = .returned (.bool true) ∧ Below w.heap.size w w' := by
  by_cases hok : 1 ≤ n ∧ n ≤ 32 ∧ 1 ≤ m ∧ m ≤ 32
  · obtain ⟨h1, h2, h3, h4⟩ := hok
    obtain ⟨a, rfl⟩ := Int.eq_ofNat_of_zero_le (show 0 ≤ n by omega)
    obtain ⟨b, rfl⟩ := Int.eq_ofNat_of_zero_le (show 0 ≤ m by omega)
    have d1 : decide ((a : Int) ≥ 1) = true := by rw [decide_eq_true_eq]; omega
    have d2 : decide ((a : Int) ≤ 32) = true := by rw [decide_eq_true_eq]; omega
    have d3 : decide ((b : Int) ≥ 1) = true := by rw [decide_eq_true_eq]; omega
    have d4 : decide ((b : Int) ≤ 32) = true := by rw [decide_eq_true_eq]; omega
    go_enter Try.func8, Try.ntmps8
    go_wp2_with fail
    refine (q_new w a b (by omega) (by omega) (by omega) (by omega)).mono ?_
    rintro e w1 ⟨r, rfl, hr, hq, hu⟩
    have U1 := Aside0.mk hu
    clear hq hu
    go_wp2_with (first
      | (go_at_call 24; refine (nil_clear _).mono ?_; rintro e w' ⟨rfl, rfl⟩)
      | (go_at_call 12; refine (nil_take _).mono ?_; rintro e w' ⟨rfl, rfl⟩)
      | (go_at_call 15; refine (nil_peek _).mono ?_; rintro e w' ⟨rfl, rfl⟩))
    refine (told_calls w1).mono ?_
    rintro e w2 ⟨rfl, hu2⟩
    have U2 := Aside0.mk ((U1.out.step hu2).to_below (Nat.le_refl _) (fun _ h => h.elim))
    clear hu2 U1
    go_wp2_with (first
      | (go_at_call 11; refine (nil_put _).mono ?_; rintro e w' ⟨rfl, rfl⟩)
      | (go_at_call 14; refine (nil_len _).mono ?_; rintro e w' ⟨rfl, rfl⟩)
      | (go_at_call 20; refine (nil_room _).mono ?_; rintro e w' ⟨rfl, rfl⟩)
      | (go_at_call 21; refine (nil_words _).mono ?_; rintro e w' ⟨rfl, rfl⟩)
      | (go_at_call 16; refine (nil_all _).mono ?_; rintro e w' ⟨rfl, rfl⟩)
      | (go_at_call 22; refine (nil_clone _).mono ?_; rintro e w' ⟨rfl, rfl⟩)
      | (go_at_call 23; (with_reducible refine (nil_nil _).mono ?_); rintro e w' ⟨rfl, rfl⟩)
      | (go_at_call 23; (with_reducible refine (nil_same _ _).mono ?_); rintro e w' ⟨rfl, rfl⟩))
    go_ret
    exact ⟨rfl, U2.out⟩
  · have HOK := Aside0.mk hok
    by_cases a1 : 1 ≤ n
    · have d1 : decide (n ≥ 1) = true := by rw [decide_eq_true_eq]; omega
      by_cases a2 : n ≤ 32
      · have d2 : decide (n ≤ 32) = true := by rw [decide_eq_true_eq]; omega
        by_cases a3 : 1 ≤ m
        · have d3 : decide (m ≥ 1) = true := by rw [decide_eq_true_eq]; omega
          have d4 : decide (m ≤ 32) = false := by rw [decide_eq_false_iff_not]; omega
          have e4 : 32 < m := by omega
          clear hok
          go_enter Try.func8, Try.ntmps8
          go_wp2_with fail
          refine (new_not w n m HOK.out).mono ?_
          rintro e w1 ⟨rfl, rfl⟩
          go_wp2_with (first
            | (go_at_call 24; refine (nil_clear _).mono ?_; rintro e w' ⟨rfl, rfl⟩)
            | (go_at_call 12; refine (nil_take _).mono ?_; rintro e w' ⟨rfl, rfl⟩)
            | (go_at_call 15; refine (nil_peek _).mono ?_; rintro e w' ⟨rfl, rfl⟩))
          refine (told_calls w).mono ?_
          rintro e w2 ⟨rfl, hu2⟩
          have U2 := Aside0.mk (hu2.to_below (Nat.le_refl _) (fun _ h => h.elim))
          clear hu2
          go_wp2_with (first
            | (go_at_call 11; refine (nil_put _).mono ?_; rintro e w' ⟨rfl, rfl⟩)
            | (go_at_call 14; refine (nil_len _).mono ?_; rintro e w' ⟨rfl, rfl⟩)
            | (go_at_call 20; refine (nil_room _).mono ?_; rintro e w' ⟨rfl, rfl⟩)
            | (go_at_call 21; refine (nil_words _).mono ?_; rintro e w' ⟨rfl, rfl⟩)
            | (go_at_call 16; refine (nil_all _).mono ?_; rintro e w' ⟨rfl, rfl⟩)
            | (go_at_call 22; refine (nil_clone _).mono ?_; rintro e w' ⟨rfl, rfl⟩)
            | (go_at_call 23; (with_reducible refine (nil_nil _).mono ?_); rintro e w' ⟨rfl, rfl⟩)
            | (go_at_call 23; (with_reducible refine (nil_same _ _).mono ?_); rintro e w' ⟨rfl, rfl⟩))
          go_ret
          exact ⟨rfl, U2.out⟩
        · have d3 : decide (m ≥ 1) = false := by rw [decide_eq_false_iff_not]; omega
          have e3 : m < 1 := by omega
          clear hok a3
          go_enter Try.func8, Try.ntmps8
          go_wp2_with fail
          refine (new_not w n m HOK.out).mono ?_
          rintro e w1 ⟨rfl, rfl⟩
          go_wp2_with (first
            | (go_at_call 24; refine (nil_clear _).mono ?_; rintro e w' ⟨rfl, rfl⟩)
            | (go_at_call 12; refine (nil_take _).mono ?_; rintro e w' ⟨rfl, rfl⟩)
            | (go_at_call 15; refine (nil_peek _).mono ?_; rintro e w' ⟨rfl, rfl⟩))
          refine (told_calls w).mono ?_
          rintro e w2 ⟨rfl, hu2⟩
          have U2 := Aside0.mk (hu2.to_below (Nat.le_refl _) (fun _ h => h.elim))
          clear hu2
          go_wp2_with (first
            | (go_at_call 11; refine (nil_put _).mono ?_; rintro e w' ⟨rfl, rfl⟩)
            | (go_at_call 14; refine (nil_len _).mono ?_; rintro e w' ⟨rfl, rfl⟩)
            | (go_at_call 20; refine (nil_room _).mono ?_; rintro e w' ⟨rfl, rfl⟩)
            | (go_at_call 21; refine (nil_words _).mono ?_; rintro e w' ⟨rfl, rfl⟩)
            | (go_at_call 16; refine (nil_all _).mono ?_; rintro e w' ⟨rfl, rfl⟩)
            | (go_at_call 22; refine (nil_clone _).mono ?_; rintro e w' ⟨rfl, rfl⟩)
            | (go_at_call 23; (with_reducible refine (nil_nil _).mono ?_); rintro e w' ⟨rfl, rfl⟩)
            | (go_at_call 23; (with_reducible refine (nil_same _ _).mono ?_); rintro e w' ⟨rfl, rfl⟩))
          go_ret
          exact ⟨rfl, U2.out⟩
      · have d2 : decide (n ≤ 32) = false := by rw [decide_eq_false_iff_not]; omega
        have e2 : 32 < n := by omega
        clear hok a2
        go_enter Try.func8, Try.ntmps8
        go_wp2_with fail
        refine (new_not w n m HOK.out).mono ?_
        rintro e w1 ⟨rfl, rfl⟩
        go_wp2_with (first
          | (go_at_call 24; refine (nil_clear _).mono ?_; rintro e w' ⟨rfl, rfl⟩)
          | (go_at_call 12; refine (nil_take _).mono ?_; rintro e w' ⟨rfl, rfl⟩)
          | (go_at_call 15; refine (nil_peek _).mono ?_; rintro e w' ⟨rfl, rfl⟩))
        refine (told_calls w).mono ?_
        rintro e w2 ⟨rfl, hu2⟩
        have U2 := Aside0.mk (hu2.to_below (Nat.le_refl _) (fun _ h => h.elim))
        clear hu2
        go_wp2_with (first
          | (go_at_call 11; refine (nil_put _).mono ?_; rintro e w' ⟨rfl, rfl⟩)
          | (go_at_call 14; refine (nil_len _).mono ?_; rintro e w' ⟨rfl, rfl⟩)
          | (go_at_call 20; refine (nil_room _).mono ?_; rintro e w' ⟨rfl, rfl⟩)
          | (go_at_call 21; refine (nil_words _).mono ?_; rintro e w' ⟨rfl, rfl⟩)
          | (go_at_call 16; refine (nil_all _).mono ?_; rintro e w' ⟨rfl, rfl⟩)
          | (go_at_call 22; refine (nil_clone _).mono ?_; rintro e w' ⟨rfl, rfl⟩)
          | (go_at_call 23; (with_reducible refine (nil_nil _).mono ?_); rintro e w' ⟨rfl, rfl⟩)
          | (go_at_call 23; (with_reducible refine (nil_same _ _).mono ?_); rintro e w' ⟨rfl, rfl⟩))
        go_ret
        exact ⟨rfl, U2.out⟩
    · have d1 : decide (n ≥ 1) = false := by rw [decide_eq_false_iff_not]; omega
      have e1 : n < 1 := by omega
      clear hok a1
      go_enter Try.func8, Try.ntmps8
      go_wp2_with fail
      refine (new_not w n m HOK.out).mono ?_
      rintro e w1 ⟨rfl, rfl⟩
      go_wp2_with (first
        | (go_at_call 24; refine (nil_clear _).mono ?_; rintro e w' ⟨rfl, rfl⟩)
        | (go_at_call 12; refine (nil_take _).mono ?_; rintro e w' ⟨rfl, rfl⟩)
        | (go_at_call 15; refine (nil_peek _).mono ?_; rintro e w' ⟨rfl, rfl⟩))
      refine (told_calls w).mono ?_
      rintro e w2 ⟨rfl, hu2⟩
      have U2 := Aside0.mk (hu2.to_below (Nat.le_refl _) (fun _ h => h.elim))
      clear hu2
      go_wp2_with (first
        | (go_at_call 11; refine (nil_put _).mono ?_; rintro e w' ⟨rfl, rfl⟩)
        | (go_at_call 14; refine (nil_len _).mono ?_; rintro e w' ⟨rfl, rfl⟩)
        | (go_at_call 20; refine (nil_room _).mono ?_; rintro e w' ⟨rfl, rfl⟩)
        | (go_at_call 21; refine (nil_words _).mono ?_; rintro e w' ⟨rfl, rfl⟩)
        | (go_at_call 16; refine (nil_all _).mono ?_; rintro e w' ⟨rfl, rfl⟩)
        | (go_at_call 22; refine (nil_clone _).mono ?_; rintro e w' ⟨rfl, rfl⟩)
        | (go_at_call 23; (with_reducible refine (nil_nil _).mono ?_); rintro e w' ⟨rfl, rfl⟩)
        | (go_at_call 23; (with_reducible refine (nil_same _ _).mono ?_); rintro e w' ⟨rfl, rfl⟩))
      go_ret
      exact ⟨rfl, U2.out⟩
end Go.Proofs.Ytnnoeomjamlhbaa.RingNews
