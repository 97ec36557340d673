import Derived.Test.YtnnoeomjamlhbaaRingLs
import Derived.Test.YtnnoeomjamlhbaaEqU
import Derived.Test.YtnnoeomjamlhbaaOwn2
set_option linter.unusedVariables false
set_option linter.unusedSimpArgs false
namespace Go.Proofs.Ytnnoeomjamlhbaa.RingCl
attribute [local go_sem ↓] Go.wp_at_zero Go.wp_at_succ
open Go.RowKit Go.Proofs.YtnnoeomjamlhbaaW.PrintWords Go.Proofs.Ytnnoeomjamlhbaa.Own Go.Proofs.Ytnnoeomjamlhbaa.Own2 Go.Proofs.Ytnnoeomjamlhbaa.SlU Go.Proofs.Ytnnoeomjamlhbaa.Ring Go.Proofs.Ytnnoeomjamlhbaa.RingQ Go.Proofs.Ytnnoeomjamlhbaa.RingTold Go.Proofs.Ytnnoeomjamlhbaa.RingAll Go.Proofs.Ytnnoeomjamlhbaa.RingClr Go.Proofs.Ytnnoeomjamlhbaa.RingSt Go.Proofs.Ytnnoeomjamlhbaa.RingDo Go.Proofs.Ytnnoeomjamlhbaa.RingLs

/-- An element of a list of messages. -/
theorem msg_at {w : World} {A : Option Addr} {n : Nat} {l : List (List Int)} (h : mk.C w A n l) (j : Nat) (hj : j < n) :
    ∃ ad A' c, A = some ad ∧ w.cell? (ad.add j) = some (.slice A' (l.getD j []).length c) ∧ (l.getD j []).length ≤ c ∧ nk.C w A' (l.getD j []).length (l.getD j []) := by
  obtain ⟨ad, cs, he, hcl, hK, hcc⟩ := Kd.C_get h [] (j : Int) (by omega) (by omega)
  rw [Int.toNat_natCast] at hK hcc
  obtain ⟨A', c, rfl, hle, hC⟩ := hK
  have h1 := hcc 0 _ rfl
  rw [show j * mk.sz + 0 = j by show j * 1 + 0 = j; omega] at h1
  exact ⟨ad, A', c, he, h1, hle, hC⟩
theorem eqLB_not {a b : List (List Int)} {k : Nat} (h : a.getD k [] ≠ b.getD k []) : eqLB a b = false := by
  unfold eqLB
  rw [decide_eq_false_iff_not]
  rintro rfl
  exact h rfl

set_option maxHeartbeats 1000000 in
theorem eqf_calls (A : Option Addr) (c : Nat) (a : List (List Int)) (B : Option Addr) (d : Nat) (b : List (List Int)) (w : World) (ha : mk.C w A a.length a) (hb : mk.C w B b.length b) :
    Calls Try.prog 30 #[.slice A a.length c, .slice B b.length d, .func (.func 31) #[] #[]] w fun e w' => e = .returned (.bool (eqLB a b)) ∧ ∃ q, w' = w.drewN q := by
  have HA := Aside0.mk ha
  have HB := Aside0.mk hb
  have hma := Kd.C_max ha
  have hmb := Kd.C_max hb
  clear ha hb
  by_cases hl : a.length = b.length
  · have HL := Aside0.mk hl
    have hlb : ((a.length : Int) != (b.length : Int)) = false := by rw [bne_eq_false_iff_eq]; omega
    have HLL := Aside0.mk (show ∀ k : Nat, k < a.length → k < b.length from fun k hk => by omega)
    clear hl
    go_enter Try.func30, Try.ntmps30
    go_wp2_with fail
    go_loopg [7, 8, 9, 17] a.length (fun g _ _ _ i wr => ∃ k q : Nat, k ≤ a.length ∧ a.length - k ≤ g ∧ i = .int .i64 k ∧ wr = w.drewN q ∧ Aside0 (∀ j : Nat, j < k → a.getD j [] = b.getD j []))
    case atStart => exact ⟨0, 0, Nat.zero_le _, by omega, rfl, rfl, ⟨fun j hj => absurd hj (Nat.not_lt_zero _)⟩⟩
    case round =>
      obtain ⟨k, q, hk, hg, rfl, rfl, HN⟩ := hrel
      by_cases hlt : k < a.length
      · have hltb := HLL.out k hlt
        obtain ⟨ad, A', ca, rfl, hc, hca, hCa⟩ := msg_at HA.out k hlt
        obtain ⟨bd, B', cb, rfl, hd, hcb, hCb⟩ := msg_at HB.out k hltb
        obtain ⟨x, hx⟩ : ∃ x, x = a.getD k [] := ⟨_, rfl⟩
        obtain ⟨y, hy⟩ : ∃ y, y = b.getD k [] := ⟨_, rfl⟩
        rw [← hx] at hc hca hCa
        rw [← hy] at hd hcb hCb
        have HX := Aside0.mk hx
        have HY := Aside0.mk hy
        have HCa := Aside0.mk hCa
        have HCb := Aside0.mk hCb
        clear hx hy hCa hCb
        have hc' : (w.drewN q).cell? (ad.add k) = some (.slice A' x.length ca) := hc
        have hd' : (w.drewN q).cell? (bd.add k) = some (.slice B' y.length cb) := hd
        clear hc hd
        have i0 : (0 : Int) ≤ (k : Int) := by omega
        have i1 : (k : Int) < (a.length : Int) := by omega
        have i2 : (k : Int) < (b.length : Int) := by omega
        cases gk with
        | zero => omega
        | succ g1 =>
        go_wp2_with fail
        refine (SameE.same_calls A' ca x B' cb y _ (Kd.C_drewN HCa.out _) (Kd.C_drewN HCb.out _)).mono ?_
        by_cases he : x = y
        · rw [show eqB x y = true by simp [eqB, he]]
          rintro e w' ⟨rfl, q2, rfl⟩
          have HE := Aside0.mk (show a.getD k [] = b.getD k [] by rw [← HX.out, ← HY.out, he])
          clear he
          go_wp2_with fail
          go_roundg g1
          case rel => exact ⟨k + 1, _, by omega, by omega, by go_num, rfl, ⟨fun j hj => by
            by_cases h : j = k
            · rw [h]; exact HE.out
            · exact HN.out j (by omega)⟩⟩
          case measure => omega
        · rw [show eqB x y = false by simp [eqB, he]]
          rintro e w' ⟨rfl, q2, rfl⟩
          have HE := Aside0.mk (eqLB_not (k := k) (a := a) (b := b) (by rw [← HX.out, ← HY.out]; exact he))
          clear he
          go_wp2_with fail
          go_ret
          exact ⟨by rw [HE.out]; rfl, _, rfl⟩
      · have HE := Aside0.mk (show eqLB a b = true by
          unfold eqLB
          rw [decide_eq_true_eq]
          exact list_ext_getD HL.out (fun j hj => HN.out j (by omega)))
        go_wp2_with fail
        go_ret
        exact ⟨by rw [HE.out]; rfl, q, rfl⟩
  · have hlb : ((a.length : Int) != (b.length : Int)) = true := by rw [bne_iff_ne]; omega
    have HE : Aside0 (eqLB a b = false) := ⟨by unfold eqLB; rw [decide_eq_false_iff_not]; rintro rfl; exact hl rfl⟩
    clear hl
    go_enter Try.func30, Try.ntmps30
    go_wp2_with fail
    go_ret
    exact ⟨by rw [HE.out]; rfl, 0, rfl⟩

theorem same_nil (w : World) (b : Nat) :
    Calls Try.prog 23 #[.pointer (some ⟨b, 0, none⟩), .pointer none] w fun e w' => e = .returned (.bool false) ∧ w = w' := by
  go_enter Try.func23, Try.ntmps23
  go_wp2_with fail
  go_ret
  exact ⟨rfl, rfl⟩
theorem nil_same (w : World) (b : Nat) :
    Calls Try.prog 23 #[.pointer none, .pointer (some ⟨b, 0, none⟩)] w fun e w' => e = .returned (.bool false) ∧ w = w' := by
  have hn : ∀ w, (binOp .eql 23 (.pointer none) (.pointer (some ⟨b, 0, none⟩))).run Try.prog w = .ok (.bool false) w := fun w => run_eql_nil_ptr _ _ _ Try.underlying23
  go_enter Try.func23, Try.ntmps23
  go_wp2_with fail
  go_ret
  exact ⟨rfl, rfl⟩
theorem nil_nil (w : World) :
    Calls Try.prog 23 #[.pointer none, .pointer none] w fun e w' => e = .returned (.bool true) ∧ w = w' := by
  have hu := Try.underlying23
  go_enter Try.func23, Try.ntmps23
  go_wp2_with fail
  exact bodyPost_ret (v := .bool true) (by simp [results, Try.results23, go_sem]) rfl ⟨rfl, rfl⟩

theorem room_q {w : World} {F : Nat → Prop} {b room words : Nat} {q : List (List Int)} (h : RQ w F b room words q) (n : Nat) :
    Calls Try.prog 20 #[.pointer (some ⟨b, 0, none⟩)] (w.drewN n) fun e w'' => e = .returned (.int .i64 room) ∧ ∃ m, w'' = w.drewN m :=
  (q_room _ F b room words q (h.upd0 ((Upd.refl _ _).drewN n))).mono (fun e w' ⟨he, hw⟩ => ⟨he, n, hw.symm⟩)
/-- Two of different rooms. -/
theorem same_room (w : World) (F F' : Nat → Prop) (b b' room words room' words' : Nat) (q q' : List (List Int)) (h : RQ w F b room words q) (h' : RQ w F' b' room' words' q') (hr : room ≠ room') :
    Calls Try.prog 23 #[.pointer (some ⟨b, 0, none⟩), .pointer (some ⟨b', 0, none⟩)] w fun e w' => e = .returned (.bool false) ∧ Upd w w' (fun _ => False) := by
  have hrb : ((room : Int) == (room' : Int)) = false := by rw [beq_eq_false_iff_ne]; omega
  have H := Aside0.mk h
  have H' := Aside0.mk h'
  clear h h' hr
  go_enter Try.func23, Try.ntmps23
  go_wp2_with fail
  go_quiet ((go_at_call 20; first | with_reducible exact room_q H.out _ | with_reducible exact room_q H'.out _))
  go_wp2_with fail
  go_ret
  exact ⟨rfl, (Upd.refl _ _).drewN _⟩
/-- Two of the same room and words. -/
theorem same_all (w : World) (F F' : Nat → Prop) (b b' room words : Nat) (q q' : List (List Int)) (h : RQ w F b room words q) (h' : RQ w F' b' room words q') :
    Calls Try.prog 23 #[.pointer (some ⟨b, 0, none⟩), .pointer (some ⟨b', 0, none⟩)] w fun e w' => e = .returned (.bool (eqLB q q')) ∧ Upd w w' (fun _ => False) := by
  have hrb : ((room : Int) == (room : Int)) = true := by simp
  have hwb : ((words : Int) == (words : Int)) = true := by simp
  have H := Aside0.mk h
  have H' := Aside0.mk h'
  obtain ⟨_, _, ⟨_, _, _, _, hb, _⟩, _⟩ := h
  obtain ⟨_, _, ⟨_, _, _, _, hb', _⟩, _⟩ := h'
  have c0 := (blk_cell hb 1).trans rfl
  have c1 := (blk_cell hb' 1).trans rfl
  clear hb hb'
  go_enter Try.func23, Try.ntmps23
  go_wp2_with fail
  go_region_held3 (fun w' => w'.cell? ⟨b, 1, none⟩ = some (.int .i64 words) ∧ w'.cell? ⟨b', 1, none⟩ = some (.int .i64 words)) (first | exact ⟨k2, k3⟩ | exact ⟨k0, k1⟩ | go_keep)
    (first
      | (go_at_call 20; (with_reducible refine (q_room _ F b room words q (H.out.upd0 ?_)).mono ?_); exact (Upd.refl _ _).drew; rintro e w7 ⟨rfl, rfl⟩)
      | (go_at_call 20; (with_reducible refine (q_room _ F' b' room words q' (H'.out.upd0 ?_)).mono ?_); exact (Upd.refl _ _).drew; rintro e w7 ⟨rfl, rfl⟩)
      | (go_at_call 16; (with_reducible refine (q_all _ F b room words q (H.out.upd0 ?_)).mono ?_); exact (Upd.refl _ _).drew; rintro e w5 ⟨v5, rfl, hr5, hu5⟩; obtain ⟨A5, c5, rfl⟩ := Kd.R_slice hr5; have k0 := cell_upd0 hu5 c0; have k1 := cell_upd0 hu5 c1; have HW5 := Aside0.mk (((Upd.refl w (fun _ => False)).drew).step hu5); have HR5 := Aside0.mk hr5; clear hr5 hu5)
      | (go_at_call 16; (with_reducible refine (q_all _ F' b' room words q' (H'.out.upd0 ?_)).mono ?_); exact HW5.out; rintro e w6 ⟨v6, rfl, hr6, hu6⟩; obtain ⟨A6, c6, rfl⟩ := Kd.R_slice hr6; have k2 := cell_upd0 hu6 k0; have k3 := cell_upd0 hu6 k1; have HW6 := Aside0.mk (HW5.out.step hu6); have HR6 := Aside0.mk hr6; have HR56 := Aside0.mk (R_upd0 HR5.out hu6); clear hr6 hu6)
      | (go_at_call 30; refine (eqf_calls A5 c5 q A6 c6 q' _ (Kd.R_reads' HR56.out).2.2 (Kd.R_reads' HR6.out).2.2).mono ?_; rintro e w8 ⟨rfl, q8, rfl⟩))
  go_wp2_with fail
  go_ret
  exact ⟨rfl, HW6.out.drewN _⟩

theorem own_inner {w : World} {e : Nat} {ok : Nat → Prop} {A : Option Addr} {n c : Nat} {l : List (List Int)} (h : mk.R e w 0 ok (.slice A n c) l) :
    ∃ cs : List Value, cs.length = l.length ∧ (0 < cs.length → ∃ ad, A = some ad ∧ ∀ j v, cs[j]? = some v → w.cell? (ad.add j) = some v) ∧ ∀ j, j < l.length → ∃ v, cs[j]? = some v ∧ v.oneCell' = true ∧ Msg w ok v (l.getD j []) := by
  have hrd := (Kd.R_reads' h).2.2
  have hn := (Kd.R_reads' h).1
  have hex : ∀ j, j < l.length → ∃ v, (∃ ad, A = some ad ∧ w.cell? (ad.add j) = some v) ∧ v.oneCell' = true ∧ Msg w ok v (l.getD j []) := by
    intro j hj
    obtain ⟨g, cap, hv, hg1, hg2, cells, hgc⟩ := Kd.R_form h (by omega)
    injection hv with hA _ _
    subst hA
    obtain ⟨cs, hl, hM, hcc, hfr⟩ := Kd.R_elem h [] j (by omega) (by omega)
    obtain ⟨v, rfl, hv⟩ := hM
    refine ⟨v, ⟨_, rfl, ?_⟩, ?_, ?_⟩
    · have h1 := hcc 0 v rfl
      rw [Int.toNat_natCast] at h1
      rw [add_plain]
      rw [show j * mk.sz + 0 = j by show j * 1 + 0 = j; omega] at h1
      exact h1
    · obtain ⟨A', c', rfl⟩ := Kd.R_slice hv
      rfl
    · rw [Int.toNat_natCast] at hv
      exact Kd.V_mono (Kd.R_V hv) (fun k hk => hk.1)
  have := Classical.axiomOfChoice (fun j : Fin l.length => hex j.1 j.2)
  obtain ⟨f, hf⟩ := this
  refine ⟨List.ofFn f, by simp, fun hp => ?_, fun j hj => ⟨f ⟨j, hj⟩, by simp [hj], (hf ⟨j, hj⟩).2⟩⟩
  simp at hp
  obtain ⟨ad, he, _⟩ := (hf ⟨0, hp⟩).1
  refine ⟨ad, he, fun j v hv => ?_⟩
  have hj : j < l.length := by
    rcases Nat.lt_or_ge j l.length with h | h
    · exact h
    · rw [List.getElem?_eq_none (by simpa using h)] at hv; cases hv
  have hv' : f ⟨j, hj⟩ = v := by simpa [hj] using hv
  obtain ⟨ad', he', hc'⟩ := (hf ⟨j, hj⟩).1
  rw [he] at he'
  injection he' with he'
  rw [← hv', he']
  exact hc'

set_option maxHeartbeats 2000000 in
theorem q_clone (w : World) (F : Nat → Prop) (b room words : Nat) (q : List (List Int)) (h : RQ w F b room words q) :
    Calls Try.prog 22 #[.pointer (some ⟨b, 0, none⟩)] w fun e w' => ∃ b', e = .returned (.pointer (some ⟨b', 0, none⟩)) ∧ w.heap.size ≤ b' ∧ RQ w' (fun k => w.heap.size ≤ k) b' room words q ∧ Upd w w' (fun _ => False) := by
  have H := Aside0.mk h
  obtain ⟨f, sl, ⟨_, g, cap, cur, hb, _⟩, hf, hql, hr1, hr2, _, hml⟩ := h
  have HML := Aside0.mk hml
  have c0 := (blk_cell hb 0).trans rfl
  have c1 := (blk_cell hb 1).trans rfl
  have c3 := (blk_cell hb 3).trans rfl
  have hbl := blk_lt hb
  clear hb hml
  obtain ⟨C, hC, hmk⟩ := make_row (P := Try.prog) 22 28 (.slice none 0 0) 24 room Try.underlying22 info28 rfl (by omega) (by omega)
  have HC := Aside0.mk hC
  clear hC
  go_enter Try.func22, Try.ntmps22
  go_wp2_with fail
  go_region_held3 (fun w' => w'.cell? ⟨b, 0, none⟩ = some (.slice (some ⟨g, 0, none⟩) room cap) ∧ w'.cell? ⟨b, 1, none⟩ = some (.int .i64 words) ∧ w'.cell? ⟨b, 3, none⟩ = some (.int .i64 q.length)) (go_keep) (fail)
  go_wp2_with fail
  obtain ⟨g', hg'⟩ : ∃ g', g' = w.heap.size := ⟨_, rfl⟩
  obtain ⟨b', hb'⟩ : ∃ b', b' = w.heap.size + 1 := ⟨_, rfl⟩
  have hb'' : b' = g' + 1 := by omega
  simp only [← hb']
  generalize hW3 : World.alloc _ (Obj.cells #[.slice _ _ _, _, _, _] 58) = W3
  have hU3 : Upd w W3 (fun _ => False) := by
    rw [← hW3]
    exact ((Upd.refl w _).alloc _).alloc _
  have hG3 : W3.heap[g']? = some (.cells C 28 (0, 0)) := by
    rw [← hW3, hg']
    exact blk_alloc (heap_alloc_new w _) _
  have hB3 : W3.heap[b']? = some (.cells #[.slice (some ⟨g', 0, none⟩) room room, .int .i64 words, .int .i64 0, .int .i64 q.length] 58 (0, 0)) := by
    rw [← hW3, hb', hg']
    simpa using heap_alloc_new (w.alloc (.cells C 28)) (.cells #[.slice (some ⟨w.heap.size, 0, none⟩) room room, .int .i64 words, .int .i64 0, .int .i64 q.length] 58)
  have c0' : W3.cell? ⟨b', 0, none⟩ = some (.slice (some ⟨g', 0, none⟩) room room) := (blk_cell hB3 0).trans rfl
  have HU3 := Aside0.mk hU3
  have HG3 := Aside0.mk hG3
  have HB3 := Aside0.mk hB3
  have HG' := Aside0.mk hg'
  have hgl : w.heap.size ≤ g' := by omega
  have hbl' : w.heap.size ≤ b' := by omega
  have hne : ¬ g' = b' := by omega
  clear hW3 hU3 hG3 hB3 c0 c1 c3 hg' hb' hb'' hmk
  have hall : Aside0 (∀ X, Upd W3 X (fun _ => False) → Calls Try.prog 16 #[.pointer (some ⟨b, 0, none⟩)] X fun e w' => ∃ (A5 : Option Addr) (c5 : Nat) (cs : List Value), e = .returned (.slice A5 q.length c5) ∧ w'.cell? ⟨b', 0, none⟩ = some (.slice (some ⟨g', 0, none⟩) room room) ∧ Upd W3 w' (fun _ => False) ∧ cs.length = q.length ∧ (0 < cs.length → ∃ ad, A5 = some ad ∧ ∀ j v, cs[j]? = some v → w'.cell? (ad.add j) = some v) ∧ (∀ j, j < q.length → ∃ v, cs[j]? = some v ∧ v.oneCell' = true ∧ Msg w' (fun k => W3.heap.size ≤ k) v (q.getD j [])) ∧ w'.heap[g']? = some (.cells C.toList.toArray 28 (0, 0)) ∧ (∀ v ∈ cs, v.oneCell' = true) ∧ cs.length = Nat.min q.length room ∧ 0 + cs.length ≤ C.toList.length ∧ w'.heap[b']? = some (.cells #[.slice (some ⟨g', 0, none⟩) room room, .int .i64 words, .int .i64 0, .int .i64 q.length] 58 (0, 0))) := ⟨by
    intro X hX
    refine (q_all X F b room words q (H.out.upd0 (HU3.out.step hX))).mono ?_
    rintro e w' ⟨v, rfl, hr, hu⟩
    obtain ⟨A5, c5, rfl⟩ := Kd.R_slice hr
    obtain ⟨cs, h1, h2, h3⟩ := own_inner hr
    have h4 := (hX.step hu)
    have hG4 := (h4.block (blk_lt HG3.out) (fun h => h)).trans HG3.out
    have hB4 := (h4.block (blk_lt HB3.out) (fun h => h)).trans HB3.out
    have hn : cs.length = Nat.min q.length room := by rw [h1]; exact (Nat.min_eq_left hql).symm
    refine ⟨A5, c5, cs, rfl, (blk_cell hB4 0).trans rfl, h4, h1, h2, fun j hj => ?_, by simpa using hG4, fun v hv => ?_, hn, by rw [HC.out, List.length_replicate]; omega, hB4⟩
    rotate_left
    · obtain ⟨j, hj, rfl⟩ := List.getElem_of_mem hv
      obtain ⟨v', h5, h6, _⟩ := h3 j (by rw [← h1]; exact hj)
      rw [List.getElem?_eq_getElem hj] at h5
      injection h5 with h5
      rw [h5]; exact h6
    obtain ⟨v, hv1, hv2, hv3⟩ := h3 j hj
    exact ⟨v, hv1, hv2, Kd.V_mono hv3 (fun k hk => Nat.le_trans hX.size hk)⟩⟩
  have hne2 : ¬ b' = g' := fun h => hne h.symm
  have hsz28 : (Try.prog.info? 28).map (·.size) = some 1 := by kernel_rfl
  go_region_held3 (fun w' => w'.cell? ⟨b', 0, none⟩ = some (.slice (some ⟨g', 0, none⟩) room room)) (first | exact k1 | exact k0 | exact c0' | go_keep)
    (first
      | (go_at_call 16; refine (hall.out _ ?_).mono ?_; exact ((Upd.refl _ _).drew).drew; rintro e w5 ⟨A5, c5, cs, rfl, k0, hu5, l1, l2, l3, g5, n1, n2, n3, b5⟩; have N1 := Aside0.mk n1; have N2 := Aside0.mk n2; have N3 := Aside0.mk n3; have HU5 := Aside0.mk hu5; have L1 := Aside0.mk l1; have L2 := Aside0.mk l2; have L3 := Aside0.mk l3; have G5 := Aside0.mk g5; have B5 := Aside0.mk b5; clear hu5 l1 l2 l3 g5 n1 n2 n3 b5)
      | (refine step_copy_upd rfl (.tmp 25) (.tmp 27) 22 22 rfl 28 Try.underlying22 hsz28 g' 0 room room A5 q.length c5 rfl rfl C.toList 28 G5.out cs N2.out L2.out N3.out N1.out ?_; intro w6 hg6 hu6; have k1 := cell_kept (a := ⟨b', 0, none⟩) k0 hu6.out.kept hne2))
  go_wp2_with fail
  go_ret
  have hb6 := (hu6.out.block (blk_lt B5.out) (fun h => hne h.symm)).trans B5.out
  have hz3 := Upd.size HU5.out
  have hg3 := blk_lt HG3.out
  have hb3 := blk_lt HB3.out
  refine ⟨b', rfl, hbl', ⟨0, fun i => q.getD i [], ⟨hbl', g', room, _, hb6, hgl, hne, Nat.le_refl _, hg6.out, fun i hi => ?_⟩, by omega, hql, hr1, hr2, fun k hk => ?_, HML.out⟩, ((HU3.out.step HU5.out).trans hu6.out (fun k hk => .inr (by rw [hk]; exact hgl)))⟩
  · by_cases hiq : i < q.length
    · obtain ⟨v, hv1, _, hv3⟩ := L3.out i hiq
      refine ⟨v, ?_, Kd.V_kept (Kd.V_mono hv3 (fun k hk => ⟨⟨by omega, by omega⟩, by omega⟩)) hu6.out.kept (fun k hk h => hk.2 h)⟩
      have hil : i < cs.length := by rw [L1.out]; exact hiq
      rw [List.getElem?_toArray]
      unfold splice
      simp only [List.take_zero, List.nil_append]
      rw [List.getElem?_append_left hil]
      exact hv1
    · have hgd : q.getD i [] = [] := by simp [List.getD, List.getElem?_eq_none (show q.length ≤ i by omega)]
      refine ⟨.slice none 0 0, ?_, by show Msg _ _ _ (q.getD i []); rw [hgd]; exact Kd.V_nil _ _ _ _ _⟩
      rw [List.getElem?_toArray]
      unfold splice
      simp only [List.take_zero, List.nil_append]
      rw [List.getElem?_append_right (by rw [L1.out]; omega), L1.out, HC.out, List.getElem?_drop, List.getElem?_replicate]
      simp
      omega
  · have : at_ room 0 k = k := by rw [at_eq (by omega) (by omega)]; simp; omega
    rw [this]
end Go.Proofs.Ytnnoeomjamlhbaa.RingCl
