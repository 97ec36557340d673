import Derived.Test.YtnnoeomjamlhbaaRingAll
set_option linter.unusedVariables false
set_option linter.unusedSimpArgs false
namespace Go.Proofs.Ytnnoeomjamlhbaa.RingOwn
attribute [local go_sem] Go.Proofs.Ytnnoeomjamlhbaa.Own.min_two Go.Proofs.Ytnnoeomjamlhbaa.Own.min2_mn
open Go.RowKit Go.Proofs.YtnnoeomjamlhbaaW.PrintWords Go.Proofs.Ytnnoeomjamlhbaa.Own Go.Proofs.Ytnnoeomjamlhbaa.SlU Go.Proofs.Ytnnoeomjamlhbaa.Ring Go.Proofs.Ytnnoeomjamlhbaa.RingQ Go.Proofs.Ytnnoeomjamlhbaa.RingTold Go.Proofs.Ytnnoeomjamlhbaa.RingAll

/-- The first cell of a row of one's own. -/
theorem row_head {e : Nat} {W : World} {ok : Nat → Prop} {A : Option Addr} {n c : Nat} {o : List Int} (h : nk.R e W 0 ok (.slice A n c) o) (hn : 0 < n) :
    ∃ g, A = some ⟨g, 0, none⟩ ∧ ok g ∧ W.cell? ⟨g, 0, none⟩ = some (.int .u32 (o.getD 0 0)) ∧ W.frozen? ⟨g, 0, none⟩ = false := by
  obtain ⟨g, rfl⟩ : ∃ g, A = some ⟨g, 0, none⟩ := by
    obtain ⟨_, inner, ho, hr⟩ := id h
    rcases ho.2 with ⟨hv, _⟩ | ⟨g, cap', cur, hv, _⟩
    · injection hv with h1 h2
      omega
    · injection hv with ha _ _
      exact ⟨g, ha⟩
  obtain ⟨cs, hl, hM, hcc, hfr⟩ := Kd.R_elem h 0 0 (by omega) (by omega)
  have hcs : cs = [.int .u32 (o.getD 0 0)] := hM
  subst hcs
  exact ⟨g, rfl, h.1 g rfl, by simpa using hcc 0 _ rfl, by simpa using hfr 0⟩

theorem mk_head {e : Nat} {W : World} {ok : Nat → Prop} {A : Option Addr} {n c : Nat} {l : List (List Int)} (h : mk.R e W 0 ok (.slice A n c) l) (hn : 0 < n) :
    ∃ g A' c', A = some ⟨g, 0, none⟩ ∧ ok g ∧ W.cell? ⟨g, 0, none⟩ = some (.slice A' (l.getD 0 []).length c') ∧ nk.R 37 W 0 (fun k => ok k ∧ k ≠ g) (.slice A' (l.getD 0 []).length c') (l.getD 0 []) := by
  obtain ⟨g, rfl⟩ : ∃ g, A = some ⟨g, 0, none⟩ := by
    obtain ⟨_, inner, ho, hr⟩ := id h
    rcases ho.2 with ⟨hv, _⟩ | ⟨g, cap', cur, hv, _⟩
    · injection hv with h1 h2
      omega
    · injection hv with ha _ _
      exact ⟨g, ha⟩
  obtain ⟨cs, hl, hM, hcc, hfr⟩ := Kd.R_elem h [] 0 (by omega) (by omega)
  obtain ⟨v, rfl, hv⟩ := hM
  obtain ⟨A', c', rfl⟩ := Kd.R_slice hv
  exact ⟨g, A', c', rfl, h.1 g rfl, by simpa using hcc 0 _ rfl, hv⟩

set_option maxRecDepth 20000 in
set_option maxHeartbeats 4000000 in
theorem walk (A : Option Addr) (c : Nat) (m0 : List Int) (by_ : Int) (w : World) (hr : nk.C w A m0.length m0) (hc : m0.length ≤ c) (_ : ∀ z ∈ m0, (Lit.int .u32 z).wf = true) (_ : (Lit.int .u32 by_).wf = true) :
    Calls Try.prog 5 #[.slice A m0.length c, .int .u32 by_] w fun e w' => e = .returned (.bool true) ∧ Below w.heap.size w w' := by
  have hcut := cut_min 28 37 Try.underlying28 info A m0 c 31 31 rfl hc
  obtain ⟨m, hm⟩ : ∃ m, m = m0.take 31 := ⟨_, rfl⟩
  have hml : m.length ≤ 31 := by rw [hm, List.length_take]; omega
  have hmr : nk.C w A m.length m := by rw [hm]; exact C_take hr 31
  rw [← hm] at hcut
  have HR := Aside0.mk hmr
  clear hr hmr hm
  go_enter Try.func5, Try.ntmps5
  go_wp2_with (at_builtin; refine Kd.R_append_rows nk (Rr := fun x cs => cs = [Value.int .u32 x]) (w0 := w.alloc (.cells #[.int .u32 1] 37)) 0 rfl (.tmp 14) (.tmp 19) 28 37 (.int .u32 0) 4 rfl Try.underlying28 info rfl (by decide) (by omega) (.slice (some ⟨w.heap.size, 0, none⟩) 1 1) [1] m A m.length c (fun k => w.heap.size ≤ k) (fun _ => False) rfl rfl ?aO ?aR ?aK (fun _ hk => hk.elim) ?aF ?aB ?aS ?aL ?aH)
  case aO => exact Kd.R_mono (R_litN .u32 w 37 [1] (by simp)) (fun k hk => by rw [hk]; exact Nat.le_refl _)
  case aR => exact Kd.C_alloc HR.out _
  case aK => rintro x cs rfl; rfl
  case aF => exact fun k hk => Nat.le_trans (Upd.size ((Upd.refl w (fun _ => False)).alloc _)) hk
  case aB => exact Below.refl _ _
  case aS => exact Nat.zero_le _
  case aL => simp; omega
  case aH =>
  intro v1 w1 ho hb1 hg1 hat1
  have hu1 : Upd w w1 (fun _ => False) := ((Upd.refl w (fun _ => False)).alloc (.cells #[.int .u32 1] 37)).trans (Upd.of_grown (F := fun k => w.heap.size ≤ k) hg1 (fun k hk => by
    have : w.heap.size = k := by simpa [Value.ownBlock] using hk
    omega)) (fun k hk => .inr hk)
  obtain ⟨o, hoo⟩ : ∃ o, o = 1 :: m := ⟨_, rfl⟩
  rw [← hoo] at ho
  have hol : o.length ≤ 32 ∧ 0 < o.length := by rw [hoo]; simp; omega
  have hol1 := hol.1
  have hol0 := hol.2
  obtain ⟨A1, c1, rfl⟩ := Kd.R_slice ho
  have R1 : Aside0 (nk.R 37 w1 0 (fun k => w.heap.size ≤ k ∧ k < w1.heap.size) (.slice A1 o.length c1) o) := ⟨Kd.R_mono (Kd.R_bound ho) (fun k hk => ⟨hk.1, hk.2.2.1⟩)⟩
  have U1 := Aside0.mk hu1
  have hoo' := Aside0.mk hoo
  clear ho hb1 hg1 hat1 hu1 hoo hol hcut HR
  go_wp2_with (at_builtin; refine Kd.R_append_rows nk (Rr := fun x cs => cs = [Value.int .u32 x]) (w0 := w1.alloc (.cells #[] 37)) 0 rfl (.tmp 21) (.tmp 22) 28 37 (.int .u32 0) 4 rfl Try.underlying28 info rfl (by decide) (by omega) (.slice (some ⟨w1.heap.size, 0, none⟩) 0 0) [] o A1 o.length c1 (fun k => w1.heap.size ≤ k) (fun _ => False) rfl rfl ?aO ?aR ?aK (fun _ hk => hk.elim) ?aF ?aB ?aS ?aL ?aH)
  case aO => exact Kd.R_mono (R_litN .u32 w1 37 [] (by simp)) (fun k hk => by rw [hk]; exact Nat.le_refl _)
  case aR => exact Kd.C_alloc (Kd.R_reads' R1.out).2.2 _
  case aK => rintro x cs rfl; rfl
  case aF => exact fun k hk => Nat.le_trans (Upd.size ((Upd.refl w1 (fun _ => False)).alloc _)) hk
  case aB => exact Below.refl _ _
  case aS => exact Nat.zero_le _
  case aL => simp; omega
  case aH =>
  intro v2 w2 ho hb2 hg2 hat2
  have hu2 : Upd w1 w2 (fun _ => False) := ((Upd.refl w1 (fun _ => False)).alloc (.cells #[] 37)).trans (Upd.of_grown (F := fun k => w1.heap.size ≤ k) hg2 (fun k hk => by
    have : w1.heap.size = k := by simpa [Value.ownBlock] using hk
    omega)) (fun k hk => .inr hk)
  obtain ⟨A2, c2, rfl⟩ := Kd.R_slice ho
  have W2 : Aside0 (nk.R 37 w2 0 (fun k => w1.heap.size ≤ k ∧ k < w2.heap.size) (.slice A2 o.length c2) o) := ⟨Kd.R_mono (Kd.R_bound ho) (fun k hk => ⟨hk.1, hk.2.2.1⟩)⟩
  have R2 := Aside0.mk (R_upd0 R1.out hu2)
  have U2 := Aside0.mk (U1.out.step hu2)
  have hz12 := hu2.size
  have hz01 := U1.out.size
  clear ho hb2 hg2 hat2 hu2 R1 U1
  go_wp2_with fail
  refine (q_new w2 2 32 (by omega) (by omega) (by omega) (by omega)).mono ?_
  rintro e w3 ⟨b, rfl, hb, h3, hu3⟩
  have H3 := Aside0.mk h3
  have HU3 := Aside0.mk hu3
  clear h3 hu3
  go_wp2_with fail
  refine (told_calls w3).mono ?_
  rintro e w4 ⟨rfl, hu4⟩
  have hu24 := HU3.out.step hu4
  have H4 : Aside0 (RQ w4 (fun k => w2.heap.size ≤ k ∧ k < w4.heap.size) b 2 32 []) := ⟨(H3.out.upd0 hu4).bound⟩
  have R4 := Aside0.mk (R_upd0 R2.out hu24)
  have W4 := Aside0.mk (R_upd0 W2.out hu24)
  have U4 := Aside0.mk (U2.out.step hu24)
  have hz24 := hu24.size
  clear H3 HU3 hu4 hu24 R2 W2 U2
  go_wp2_with fail
  refine (q_put w4 _ b 2 32 [] A1 c1 o H4.out (Kd.R_reads' R4.out).2.2 hol1 (by simp)).mono ?_
  rintro e w5 ⟨rfl, h5, hu5⟩
  have H5 : Aside0 (RQ w5 (fun k => w2.heap.size ≤ k ∧ k < w5.heap.size) b 2 32 [o]) := ⟨h5.bound.mono (fun k hk => ⟨hk.1.elim (fun h => h.1) (fun h => by omega), hk.2⟩)⟩
  have R5 := Aside0.mk (R_upd' R4.out hu5 (fun k hk _ h => by omega))
  have W5 := Aside0.mk (R_upd' W4.out hu5 (fun k hk _ h => by omega))
  have U5 := Aside0.mk (U4.out.trans hu5 (fun k hk => .inr (by omega)))
  have hz45 := hu5.size
  clear h5 hu5 H4 R4 W4 U4
  go_wp2_with fail
  refine (SameR.same_calls A1 c1 o A2 c2 o w5 (Kd.R_reads' R5.out).2.2 (Kd.R_reads' W5.out).2.2).mono ?_
  rw [show eqB o o = true by simp [eqB]]
  rintro e w6 ⟨rfl, hq⟩
  have hu6 := Upd.of_q hq
  have H6 := Aside0.mk (H5.out.upd0 hu6)
  have R6 := Aside0.mk (R_upd0 R5.out hu6)
  have W6 := Aside0.mk (R_upd0 W5.out hu6)
  have U6 := Aside0.mk (U5.out.step hu6)
  have hz56 := hu6.size
  clear hq hu6 H5 R5 W5 U5
  obtain ⟨g1, rfl, hg1, k0, k1⟩ := row_head R6.out hol0
  go_wp2_with fail
  refine (q_peek _ _ b 2 32 o [] (H6.out.upd' ((Upd.refl w6 (fun k => k = g1)).setCell (p := ⟨g1, 0, none⟩) (.inl rfl) _) (fun k hk _ h => by omega))).mono ?_
  rintro e w8 ⟨v8, rfl, hr8, hu8⟩
  obtain ⟨A8, c8, rfl⟩ := Kd.R_slice hr8
  have hu68 := Upd.trans ((Upd.refl w6 (fun k => k = g1)).setCell (p := ⟨g1, 0, none⟩) (.inl rfl) _) hu8 (fun _ h => h.elim)
  have hz68 := hu68.size
  have H8 := Aside0.mk (H6.out.upd' hu68 (fun k hk _ h => by omega))
  have W8 := Aside0.mk (R_upd' W6.out hu68 (fun k hk _ h => by omega))
  have U8 := Aside0.mk (U6.out.trans hu68 (fun k hk => .inr (by omega)))
  have R8 : Aside0 (nk.R 37 w8 0 (fun k => w6.heap.size ≤ k ∧ k < w8.heap.size) (.slice A8 o.length c8) o) := ⟨Kd.R_mono (Kd.R_bound hr8) (fun k hk => ⟨Nat.le_trans (Upd.size ((Upd.refl w6 (fun k => k = g1)).setCell (p := ⟨g1, 0, none⟩) (.inl rfl) _)) hk.1, hk.2.2.1⟩)⟩
  clear hr8 hu8 hu68 H6 R6 W6 U6 k0 k1
  go_wp2_with fail
  refine (SameR.same_calls A8 c8 o A2 c2 o w8 (Kd.R_reads' R8.out).2.2 (Kd.R_reads' W8.out).2.2).mono ?_
  rw [show eqB o o = true by simp [eqB]]
  rintro e w9 ⟨rfl, hq⟩
  have hu9 := Upd.of_q hq
  have H9 := Aside0.mk (H8.out.upd0 hu9)
  have R9 := Aside0.mk (R_upd0 R8.out hu9)
  have W9 := Aside0.mk (R_upd0 W8.out hu9)
  have U9 := Aside0.mk (U8.out.step hu9)
  have hz89 := hu9.size
  clear hq hu9 H8 R8 W8 U8
  obtain ⟨g2, rfl, hg2, k2, k3⟩ := row_head R9.out hol0
  go_wp2_with fail
  refine (q_all _ _ b 2 32 [o] (H9.out.upd' ((Upd.refl w9 (fun k => k = g2)).setCell (p := ⟨g2, 0, none⟩) (.inl rfl) _) (fun k hk _ h => by omega))).mono ?_
  rintro e w10 ⟨v10, rfl, hr10, hu10⟩
  obtain ⟨A10, c10, rfl⟩ := Kd.R_slice hr10
  have hu910 := Upd.trans ((Upd.refl w9 (fun k => k = g2)).setCell (p := ⟨g2, 0, none⟩) (.inl rfl) _) hu10 (fun _ h => h.elim)
  have hz910 := hu910.size
  have H10 := Aside0.mk (H9.out.upd' hu910 (fun k hk _ h => by omega))
  have W10 := Aside0.mk (R_upd' W9.out hu910 (fun k hk _ h => by omega))
  have U10 := Aside0.mk (U9.out.trans hu910 (fun k hk => .inr (by omega)))
  have R10 := Aside0.mk (Kd.R_mono (Kd.R_bound hr10) (fun k hk => (⟨Nat.le_trans (Upd.size ((Upd.refl w9 (fun k => k = g2)).setCell (p := ⟨g2, 0, none⟩) (.inl rfl) _)) hk.1, hk.2.2.1⟩ : w9.heap.size ≤ k ∧ k < w10.heap.size)))
  clear hr10 hu10 hu910 H9 R9 W9 U9 k2 k3
  obtain ⟨g10, A11, c11, rfl, hg10, k4, r11⟩ := mk_head R10.out (by simp)
  have k4' : w10.cell? ⟨g10, 0, none⟩ = some (.slice A11 o.length c11) := k4
  have R11 : Aside0 (nk.R 37 w10 0 (fun k => (w9.heap.size ≤ k ∧ k < w10.heap.size) ∧ k ≠ g10) (.slice A11 o.length c11) o) := ⟨r11⟩
  clear k4 r11 R10
  go_wp2_with fail
  refine (SameR.same_calls A11 c11 o A2 c2 o w10 (Kd.R_reads' R11.out).2.2 (Kd.R_reads' W10.out).2.2).mono ?_
  rw [show eqB o o = true by simp [eqB]]
  rintro e w12 ⟨rfl, hq⟩
  have hu12 := Upd.of_q hq
  have H12 := Aside0.mk (H10.out.upd0 hu12)
  have R12 := Aside0.mk (R_upd0 R11.out hu12)
  have W12 := Aside0.mk (R_upd0 W10.out hu12)
  have U12 := Aside0.mk (U10.out.step hu12)
  have hz12' := hu12.size
  have k5 := cell_upd0 hu12 k4'
  clear hq hu12 H10 R11 W10 U10 k4'
  obtain ⟨g11, rfl, hg11, k6, k7⟩ := row_head R12.out hol0
  go_wp2_with fail
  first | go_region_with (fail) | fail
  all_goals
    try simp only [Act.put, List.setIfInBounds_toArray, List.set_cons_zero, List.set_cons_succ]
    clear k5 k6 k7
    go_wp2_with fail
  all_goals
    refine (q_take _ _ b 2 32 o [] (H12.out.upd' (((Upd.refl w12 (fun k => k = g11)).setCell (p := ⟨g11, 0, none⟩) (.inl rfl) _).drew) (fun k hk _ h => by omega))).mono ?_
    rintro e w13 ⟨v13, rfl, hr13, h13, hu13⟩
    obtain ⟨A13, c13, rfl⟩ := Kd.R_slice hr13
    have hu := Upd.trans ((((Upd.refl w12 (fun k => w2.heap.size ≤ k ∧ k < w5.heap.size ∨ k = g11)).setCell (p := ⟨g11, 0, none⟩) (.inl (.inr rfl)) _).drew)) hu13 (fun k hk => .inl (.inl hk))
    have R13 := Aside0.mk (Kd.R_reads' hr13).2.2
    have W13 := Aside0.mk (Kd.R_reads' (R_upd' W12.out hu (fun k hk _ h => by omega))).2.2
    have U13 := Aside0.mk (U12.out.trans hu (fun k hk => .inr (by omega)))
    clear hr13 h13 hu13 hu H12 W12 U12 R12
    go_wp2_with fail
    refine (SameR.same_calls A13 c13 o A2 c2 o w13 R13.out W13.out).mono ?_
    rw [show eqB o o = true by simp [eqB]]
    rintro e w14 ⟨rfl, hq⟩
    have U14 := Aside0.mk (U13.out.step (Upd.of_q hq))
    clear hq R13 W13 U13
    go_wp2_with fail
    go_ret
    exact ⟨rfl, U14.out.to_below (Nat.le_refl _) (fun _ h => h.elim)⟩
end Go.Proofs.Ytnnoeomjamlhbaa.RingOwn
