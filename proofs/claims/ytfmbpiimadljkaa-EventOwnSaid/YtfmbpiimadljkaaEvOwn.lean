import Derived.Test.YtfmbpiimadljkaaEvNil
set_option linter.unusedVariables false
set_option linter.unusedSimpArgs false
namespace Go.Proofs.Ytfmbpiimadljkaa.EvOwn
open Go.RowKit Go.Proofs.YtfmbpiimadljkaaW.PrintWords Go.Proofs.Ytfmbpiimadljkaa.Own Go.Proofs.Ytfmbpiimadljkaa.Ev Go.Proofs.Ytfmbpiimadljkaa.EvNil

theorem row_one {e : Nat} {W : World} {ok : Nat → Prop} {A : Option Addr} {c : Nat} {x : Int} (h : ints.R e W 0 ok (.slice A 1 c) [x]) :
    ∃ g, A = some ⟨g, 0, none⟩ ∧ ok g ∧ W.cell? ⟨g, 0, none⟩ = some (.int .i64 x) ∧ W.frozen? ⟨g, 0, none⟩ = false := by
  obtain ⟨g, rfl⟩ : ∃ g, A = some ⟨g, 0, none⟩ := by
    obtain ⟨_, inner, ho, hr⟩ := id h
    rcases ho.2 with ⟨hv, _⟩ | ⟨g, cap', cur, hv, _⟩
    · cases hv
    · injection hv with ha _ _
      exact ⟨g, ha⟩
  obtain ⟨cs, hl, hM, hcc, hfr⟩ := Kd.R_elem h 0 0 (by omega) (by omega)
  have hcs : cs = [.int .i64 x] := hM
  subst hcs
  refine ⟨g, rfl, h.1 g rfl, by simpa using hcc 0 _ rfl, by simpa using hfr 0⟩

set_option maxRecDepth 20000 in
set_option maxHeartbeats 4000000 in
theorem walk (a b : Int) (w : World) (_ : (Lit.int .i64 a).wf = true) (_ : (Lit.int .i64 b).wf = true) :
    Calls Try.prog 7 #[.int .i64 a, .int .i64 b] w fun e w' => e = .returned (.bool true) ∧ Below w.heap.size w w' := by
  have hwl : waitL false [] a = [a] := by
    unfold waitL hasB
    simp
  go_enter Try.func7, Try.ntmps7
  go_wp2_with fail
  refine (new_calls w).mono ?_
  rintro e w1 ⟨rfl, ha1, hu1⟩
  have A1 := Aside0.mk ha1
  have U1 := Aside0.mk hu1
  clear ha1 hu1
  go_wp2_with fail
  refine (told_calls w1).mono ?_
  rintro e w2 ⟨rfl, hu2⟩
  have A2 := Aside0.mk (A1.out.upd0 hu2)
  have B2 := Aside0.mk ((U1.out.step hu2).to_below (Nat.le_refl w.heap.size) (fun _ h => h.elim))
  clear A1 U1 hu2
  go_wp2_with fail
  refine (wait_calls w2 _ _ _ _ a A2.out (by simp)).mono ?_
  rw [hwl]
  rintro e w3 ⟨rfl, ha3, hu3⟩
  have A3 := Aside0.mk ha3.bound
  have B3 := Aside0.mk (B2.out.upd B2.out.size hu3 (fun k hk => hk))
  clear A2 B2 ha3 hu3
  go_wp2_with fail
  refine (waiting_calls w3 _ _ _ _ A3.out (by simp)).mono ?_
  rintro e w4 ⟨v4, rfl, hr4, hu4⟩
  obtain ⟨A4, c4, rfl⟩ := Kd.R_slice hr4
  obtain ⟨g, rfl, hg, k0, k1⟩ := row_one hr4
  have A4 := Aside0.mk (A3.out.upd0 hu4)
  have B4 := Aside0.mk (B3.out.upd B3.out.size hu4 (fun _ h => h.elim))
  have hz3 := B3.out.size
  clear A3 B3 hr4 hu4
  have d0 : ¬ (a == a) = false := by simp
  go_wp2_with fail
  have hX : Upd w4 (w4.setCell ⟨g, 0, none⟩ (.int .i64 b)) (fun k => k = g) := (Upd.refl w4 (fun k => k = g)).setCell (.inl rfl) _
  have A5 := Aside0.mk (A4.out.upd' hX (fun k hk _ h => by omega))
  have B5 := Aside0.mk (B4.out.upd B4.out.size hX (fun k hk => by omega))
  clear A4 B4 hX
  refine (waiting_calls _ _ _ _ _ A5.out (by simp)).mono ?_
  rintro e w6 ⟨v6, rfl, hr6, hu6⟩
  obtain ⟨A6, c6, rfl⟩ := Kd.R_slice hr6
  obtain ⟨g6, rfl, hg6, k2, k3⟩ := row_one hr6
  have B6 := Aside0.mk (B5.out.upd B5.out.size hu6 (fun _ h => h.elim))
  clear A5 B5 hr6 hu6
  go_wp2_with (first
    | (go_at_call 12; refine (nil_reset _).mono ?_; rintro e w7 ⟨rfl, rfl⟩)
    | (go_at_call 11; refine (nil_set _).mono ?_; rintro e w7 ⟨rfl, rfl⟩)
    | (go_at_call 13; refine (nil_wait _ _).mono ?_; rintro e w7 ⟨rfl, rfl⟩)
    | (go_at_call 17; refine (nil_drop _ _).mono ?_; rintro e w7 ⟨rfl, hu7⟩; have B7 := Aside0.mk (B6.out.upd B6.out.size hu7 (fun _ h => h.elim)); clear hu7)
    | (go_at_call 19; refine (nil_up _).mono ?_; rintro e w8 ⟨rfl, rfl⟩)
    | (go_at_call 16; refine (nil_waiting _).mono ?_; rintro e w8 ⟨rfl, rfl⟩)
    | (go_at_call 21; refine (nil_clone _).mono ?_; rintro e w8 ⟨rfl, rfl⟩)
    | (go_at_call 22; refine (nil_same _ _).mono ?_; rintro e w8 ⟨rfl, rfl⟩))
  go_ret
  exact ⟨rfl, B7.out⟩
end Go.Proofs.Ytfmbpiimadljkaa.EvOwn
