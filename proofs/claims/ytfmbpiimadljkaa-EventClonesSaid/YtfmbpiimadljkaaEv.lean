import Derived.Test.YtfmbpiimadljkaaOwn
import Derived.Test.YtfmbpiimadljkaaSlI
import Derived.Test.YtfmbpiimadljkaaHasR
import Derived.Test.YtfmbpiimadljkaaSameR
set_option linter.unusedVariables false
set_option linter.unusedSimpArgs false
namespace Go.Proofs.Ytfmbpiimadljkaa.Ev
open Go.RowKit Go.Proofs.YtfmbpiimadljkaaW.PrintWords Go.Proofs.Ytfmbpiimadljkaa.Own Go.Proofs.Ytfmbpiimadljkaa.SlI

abbrev ints : Kd Int := Kd.int .i64
abbrev evk : Kd (Bool × List Int) := Kd.pair Kd.bool (Kd.slice 3 ints)
/-- The Event at block b: up, and who waits; its blocks lie in F. -/
abbrev At (w : World) (F : Nat → Prop) (b : Nat) (up : Bool) (l : List Int) : Prop := Ob evk 45 w F b (up, l)

theorem at_mk {w : World} {F : Nat → Prop} {b : Nat} {up : Bool} {l : List Int} {v : Value} (hF : F b) (hb : w.heap[b]? = some (.cells #[.bool up, v] 45 (0, 0))) (hr : ints.R 3 w 0 F v l) : At w F b up l :=
  ⟨hF, [.bool up, v], hb, [.bool up], [v], rfl, rfl, v, rfl, Kd.R_types hr hb (by simp [Kd.int, Kd.scalar])⟩
theorem at_open {w : World} {F : Nat → Prop} {b : Nat} {up : Bool} {l : List Int} (h : At w F b up l) :
    F b ∧ ∃ A c, w.heap[b]? = some (.cells #[.bool up, .slice A l.length c] 45 (0, 0)) ∧ ints.R 3 w 0 (fun k => F k ∧ k ≠ b) (.slice A l.length c) l := by
  obtain ⟨hF, cs, hb, c0, c1, rfl, rfl, v, rfl, hr⟩ := h
  obtain ⟨A, c, rfl⟩ := Kd.R_slice hr
  exact ⟨hF, A, c, hb, hr⟩

theorem new_calls (w : World) : Calls Try.prog 9 #[] w fun e w' => e = .returned (.pointer (some ⟨w.heap.size, 0, none⟩)) ∧ At w' (fun k => w.heap.size ≤ k) w.heap.size false [] ∧ Upd w w' (fun _ => False) := by
  go_enter Try.func9, Try.ntmps9
  go_wp2
  go_ret
  refine ⟨rfl, ?_, (Upd.refl _ _).alloc _⟩
  exact at_mk (F := fun k => w.heap.size ≤ k) (Nat.le_refl _) (heap_alloc_new w _) (Kd.R_nil _ _ _ _ _)

theorem set_calls (w : World) (F : Nat → Prop) (b : Nat) (up : Bool) (l : List Int) (h : At w F b up l) :
    Calls Try.prog 11 #[.pointer (some ⟨b, 0, none⟩)] w fun e w' => ∃ v, e = .returned v ∧ ints.R 3 w' 0 (fun k => F k ∧ k ≠ b) v l ∧ At w' (fun k => k = b) b true [] ∧ Upd w w' (fun k => k = b) := by
  obtain ⟨hF, A, c, hb, hr⟩ := at_open h
  clear h
  have HR := Aside0.mk hr
  clear hr
  have c0 : w.cell? ⟨b, 0, none⟩ = some (.bool up) := blk_cell hb 0
  have c1 : w.cell? ⟨b, 1, none⟩ = some (.slice A l.length c) := blk_cell hb 1
  have f0 : w.frozen? ⟨b, 0, none⟩ = false := blk_frozen hb 0
  have f1 : w.frozen? ⟨b, 1, none⟩ = false := blk_frozen hb 1
  have HBk := Aside0.mk hb
  clear hb
  go_enter Try.func11, Try.ntmps11
  go_wp2
  go_ret
  refine ⟨_, rfl, Kd.R_far (p := ⟨b, 1, none⟩) (Kd.R_far (p := ⟨b, 0, none⟩) HR.out (fun k hk => hk.2) _) (fun k hk => hk.2) _, at_mk (F := fun k => k = b) rfl (blk_set (blk_set HBk.out 0 _) 1 _) (Kd.R_nil _ _ _ _ _), ((Upd.refl w (fun k => k = b)).setCell (.inl rfl) _).setCell (.inl rfl) _⟩

theorem reset_calls (w : World) (F : Nat → Prop) (b : Nat) (up : Bool) (l : List Int) (h : At w F b up l) :
    Calls Try.prog 12 #[.pointer (some ⟨b, 0, none⟩)] w fun e w' => e = .returned (.tuple #[]) ∧ At w' F b false l ∧ Upd w w' (fun k => k = b) := by
  obtain ⟨hF, A, c, hb, hr⟩ := at_open h
  clear h
  have HR := Aside0.mk hr
  clear hr
  have c0 : w.cell? ⟨b, 0, none⟩ = some (.bool up) := blk_cell hb 0
  have f0 : w.frozen? ⟨b, 0, none⟩ = false := blk_frozen hb 0
  have HBk := Aside0.mk hb
  clear hb
  go_enter Try.func12, Try.ntmps12
  go_wp2
  go_end0
  exact ⟨rfl, at_mk hF (blk_set HBk.out 0 _) (Kd.R_mono (Kd.R_far (p := ⟨b, 0, none⟩) HR.out (fun k hk => hk.2) _) (fun k hk => hk.1)), (Upd.refl w (fun k => k = b)).setCell (.inl rfl) _⟩

theorem up_calls (w : World) (F : Nat → Prop) (b : Nat) (up : Bool) (l : List Int) (h : At w F b up l) :
    Calls Try.prog 19 #[.pointer (some ⟨b, 0, none⟩)] w fun e w' => e = .returned (.bool up) ∧ w = w' := by
  obtain ⟨hF, A, c, hb, hr⟩ := at_open h
  clear h hr
  have c0 : w.cell? ⟨b, 0, none⟩ = some (.bool up) := blk_cell hb 0
  clear hb
  go_enter Try.func19, Try.ntmps19
  go_wp2
  go_ret
  exact ⟨rfl, rfl⟩

/-- Who waits behind a Wait. -/
def waitL (up : Bool) (l : List Int) (id : Int) : List Int := if up = true then l else if hasB l id = true then l else l ++ [id]

theorem wait_calls (w : World) (F : Nat → Prop) (b : Nat) (up : Bool) (l : List Int) (id : Int) (h : At w F b up l) (hl : l.length ≤ 1000000) :
    Calls Try.prog 13 #[.pointer (some ⟨b, 0, none⟩), .int .i64 id] w fun e w' => e = .returned (.bool up) ∧ At w' (fun k => F k ∨ w.heap.size ≤ k) b up (waitL up l id) ∧ Upd w w' F := by
  have HA := Aside0.mk h
  obtain ⟨hF, A, c, hb, hr⟩ := at_open h
  clear h
  have hrd := (Kd.R_reads' hr).2.2
  have HR := Aside0.mk hr
  clear hr
  have c0 : w.cell? ⟨b, 0, none⟩ = some (.bool up) := blk_cell hb 0
  have c1 : w.cell? ⟨b, 1, none⟩ = some (.slice A l.length c) := blk_cell hb 1
  have f1 : w.frozen? ⟨b, 1, none⟩ = false := blk_frozen hb 1
  have HBk := Aside0.mk hb
  clear hb
  have HRd := Aside0.mk hrd
  clear hrd
  cases up
  · cases hin : hasB l id
    · have HIn := Aside0.mk hin
      clear hin
      go_enter Try.func13, Try.ntmps13
      go_wp2_with (first | (go_at_call 23; refine (contains_calls A c l id _ HRd.out).mono ?_; rw [HIn.out]; rintro e w' ⟨rfl, rfl⟩) | (at_builtin; refine Kd.R_append ints (w0 := w) 0 rfl (.tmp 25) (.tmp 27) 22 3 (.int .i64 0) 8 rfl Try.underlying22 SlI.info rfl (by decide) (by omega) (.slice A l.length c) l id [.int .i64 id] (fun k => (F k ∨ w.heap.size ≤ k) ∧ k ≠ b) (fun _ => False) rfl rfl ?aP (fun _ hk => hk.elim) ?aF ?aO ?aB ?aS ?aL ?_))
      case aP => exact rfl
      case aF => intro k hk; exact ⟨.inr hk, fun e => by have := blk_lt HBk.out; omega⟩
      case aO => exact Kd.R_mono HR.out (fun k hk => ⟨.inl hk.1, hk.2⟩)
      case aB => exact Below.refl _ _
      case aS => omega
      case aL => omega
      intro v1 w1 ho hb1 hg hat
      have hb2 := blk_grown HBk.out hg (Kd.R_away HR.out (fun k hk => hk.2))
      have hu : Upd w w1 F := Upd.of_grown hg (fun k hk => (HR.out.1 k hk).1)
      obtain ⟨l2, hl2⟩ : ∃ l2, l2 = l ++ [id] := ⟨_, rfl⟩
      rw [← hl2] at ho
      have HL2 := Aside0.mk hl2
      clear hl2
      obtain ⟨A1, c1', rfl⟩ := Kd.R_slice ho
      have d1 : w1.cell? ⟨b, 1, none⟩ = some (.slice A l.length c) := blk_cell hb2 1
      have g1 : w1.frozen? ⟨b, 1, none⟩ = false := blk_frozen hb2 1
      have HO := Aside0.mk ho
      have HB2 := Aside0.mk hb2
      have HU := Aside0.mk hu
      clear ho hb2 hu hg hat hb1 c0 c1 f1
      go_wp2
      go_ret
      refine ⟨rfl, ?_, HU.out.setCell (.inl hF) _⟩
      rw [show waitL false l id = l2 by rw [HL2.out]; unfold waitL; rw [HIn.out]; simp]
      exact at_mk (.inl hF) (blk_set HB2.out 1 _) (Kd.R_mono (Kd.R_far (p := ⟨b, 1, none⟩) HO.out (fun k hk => hk.2) _) (fun k hk => hk.1))
    · have HIn := Aside0.mk hin
      clear hin
      go_enter Try.func13, Try.ntmps13
      go_wp2_with (go_at_call 23; refine (contains_calls A c l id _ HRd.out).mono ?_; rw [HIn.out]; rintro e w' ⟨rfl, rfl⟩)
      go_ret
      refine ⟨rfl, ?_, Upd.refl _ _⟩
      rw [show waitL false l id = l by unfold waitL; rw [HIn.out]; simp]
      exact HA.out.mono (fun k hk => .inl hk)
  · go_enter Try.func13, Try.ntmps13
    go_wp2_with fail
    go_ret
    exact ⟨rfl, HA.out.mono (fun k hk => .inl hk), Upd.refl _ _⟩

theorem waiting_calls (w : World) (F : Nat → Prop) (b : Nat) (up : Bool) (l : List Int) (h : At w F b up l) (hl : l.length ≤ 1000000) :
    Calls Try.prog 16 #[.pointer (some ⟨b, 0, none⟩)] w fun e w' => ∃ v, e = .returned v ∧ ints.R 3 w' 0 (fun k => w.heap.size ≤ k) v l ∧ Upd w w' (fun _ => False) := by
  obtain ⟨hF, A, c, hb, hr⟩ := at_open h
  clear h
  have hrd := (Kd.R_reads' hr).2.2
  clear hr
  have c1 : w.cell? ⟨b, 1, none⟩ = some (.slice A l.length c) := blk_cell hb 1
  have HRd := Aside0.mk hrd
  clear hrd hb
  go_enter Try.func16, Try.ntmps16
  go_wp2_with fail
  refine (SlI.clone_calls A c l _ HRd.out (by omega)).mono ?_
  rintro e w' ⟨v, rfl, hr, hu⟩
  have HR := Aside0.mk hr
  have HU := Aside0.mk hu
  clear hr hu
  go_wp2
  go_ret
  exact ⟨v, rfl, HR.out, HU.out⟩

set_option maxHeartbeats 1000000 in
theorem told_calls (w : World) : Calls Try.prog 10 #[] w fun e w' => e = .returned (.bool true) ∧ Upd w w' (fun _ => False) := by
  have hw1 : waitL false [] 3 = [3] := by decide
  have hw2 : waitL false [3] 1 = [3, 1] := by decide
  have hw3 : waitL false [3, 1] 3 = [3, 1] := by decide
  have hw4 : waitL true [] 5 = [] := by decide
  have he : eqB [3, 1] [3, 1] = true := by decide
  have H1 := Aside0.mk hw1
  have H2 := Aside0.mk hw2
  have H3 := Aside0.mk hw3
  have H4 := Aside0.mk hw4
  have HE := Aside0.mk he
  clear hw1 hw2 hw3 hw4 he
  go_enter Try.func10, Try.ntmps10
  go_wp2_with fail
  refine (new_calls w).mono ?_
  rintro e w1 ⟨rfl, ha1, hu1⟩
  have A1 := Aside0.mk ha1
  have U1 := Aside0.mk hu1
  clear ha1 hu1
  go_wp2_with fail
  refine (wait_calls w1 _ _ _ _ _ A1.out (by simp)).mono ?_
  rintro e w2 ⟨rfl, ha2, hu2⟩
  rw [H1.out] at ha2
  have A2 := Aside0.mk (ha2.mono (G := fun k => w.heap.size ≤ k) (fun k hk => hk.elim id (fun h => Nat.le_trans U1.out.size h)))
  have U2 := Aside0.mk (U1.out.trans hu2 (fun k hk => .inr hk))
  clear ha2 hu2 A1 U1
  go_wp2_with fail
  refine (wait_calls w2 _ _ _ _ _ A2.out (by simp)).mono ?_
  rintro e w3 ⟨rfl, ha3, hu3⟩
  rw [H2.out] at ha3
  have A3 := Aside0.mk (ha3.mono (G := fun k => w.heap.size ≤ k) (fun k hk => hk.elim id (fun h => Nat.le_trans U2.out.size h)))
  have U3 := Aside0.mk (U2.out.trans hu3 (fun k hk => .inr hk))
  clear ha3 hu3 A2 U2
  go_wp2_with fail
  refine (wait_calls w3 _ _ _ _ _ A3.out (by simp)).mono ?_
  rintro e w4 ⟨rfl, ha4, hu4⟩
  rw [H3.out] at ha4
  have A4 := Aside0.mk (ha4.mono (G := fun k => w.heap.size ≤ k) (fun k hk => hk.elim id (fun h => Nat.le_trans U3.out.size h)))
  have U4 := Aside0.mk (U3.out.trans hu4 (fun k hk => .inr hk))
  clear ha4 hu4 A3 U3
  go_wp2_with fail
  refine (set_calls w4 _ _ _ _ A4.out).mono ?_
  rintro e w5 ⟨v5, rfl, hr5, ha5, hu5⟩
  have hb5 := A4.out.1
  have A5 := Aside0.mk (ha5.mono (G := fun k => w.heap.size ≤ k) (fun k hk => by subst hk; exact hb5))
  have U5 := Aside0.mk (U4.out.trans hu5 (fun k hk => by subst hk; exact .inr hb5))
  obtain ⟨A, c, rfl⟩ := Kd.R_slice hr5
  have C5 := Aside0.mk (Kd.R_reads' hr5).2.2
  clear ha5 hu5 hb5 A4 U4 hr5
  go_wp2_with fail
  refine (SameR.same_calls A c [3, 1] _ _ [3, 1] _ (Kd.C_alloc C5.out _) (C_litN .i64 w5 3 [3, 1] (by simp))).mono ?_
  rw [HE.out]
  rintro e w6 ⟨rfl, hq⟩
  have hu6 := Upd.of_q hq
  have A6 := Aside0.mk ((A5.out.alloc _).upd0 hu6)
  have U6 := Aside0.mk ((U5.out.alloc _).step hu6)
  clear A5 U5 C5 hu6 hq
  go_wp2_with fail
  refine (wait_calls w6 _ _ _ _ _ A6.out (by simp)).mono ?_
  rintro e w7 ⟨rfl, ha7, hu7⟩
  rw [H4.out] at ha7
  have A7 := Aside0.mk (ha7.mono (G := fun k => w.heap.size ≤ k) (fun k hk => hk.elim id (fun h => Nat.le_trans U6.out.size h)))
  have U7 := Aside0.mk (U6.out.trans hu7 (fun k hk => .inr hk))
  clear ha7 hu7 A6 U6
  go_wp2_with fail
  refine (up_calls w7 _ _ _ _ A7.out).mono ?_
  rintro e w8 ⟨rfl, rfl⟩
  go_wp2_with fail
  refine (waiting_calls w7 _ _ _ _ A7.out (by simp)).mono ?_
  rintro e w9 ⟨v9, rfl, hr9, hu9⟩
  have U9 := Aside0.mk (U7.out.step hu9)
  obtain ⟨A9, c9, rfl⟩ := Kd.R_slice hr9
  clear hr9 hu9 U7 A7
  go_wp2_with fail
  go_ret
  exact ⟨rfl, U9.out⟩
end Go.Proofs.Ytfmbpiimadljkaa.Ev
