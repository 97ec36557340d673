import Derived.Test.YtnnoeomjamlhbaaRingTold
set_option linter.unusedVariables false
set_option linter.unusedSimpArgs false
namespace Go.Proofs.Ytnnoeomjamlhbaa.RingAll
open Go.RowKit Go.Proofs.YtnnoeomjamlhbaaW.PrintWords Go.Proofs.Ytnnoeomjamlhbaa.Own Go.Proofs.Ytnnoeomjamlhbaa.SlU Go.Proofs.Ytnnoeomjamlhbaa.Ring Go.Proofs.Ytnnoeomjamlhbaa.RingQ Go.Proofs.Ytnnoeomjamlhbaa.RingTold

theorem q_room (w : World) (F : Nat → Prop) (b room words : Nat) (q : List (List Int)) (h : RQ w F b room words q) :
    Calls Try.prog 20 #[.pointer (some ⟨b, 0, none⟩)] w fun e w' => e = .returned (.int .i64 room) ∧ w = w' := by
  obtain ⟨f, sl, ⟨_, g, cap, cur, hb, _⟩, _⟩ := h
  have c0 : w.cell? ⟨b, 0, none⟩ = some (.slice (some ⟨g, 0, none⟩) room cap) := blk_cell hb 0
  clear hb
  go_enter Try.func20, Try.ntmps20
  go_wp2
  go_ret
  exact ⟨rfl, rfl⟩
theorem q_words (w : World) (F : Nat → Prop) (b room words : Nat) (q : List (List Int)) (h : RQ w F b room words q) :
    Calls Try.prog 21 #[.pointer (some ⟨b, 0, none⟩)] w fun e w' => e = .returned (.int .i64 words) ∧ w = w' := by
  obtain ⟨f, sl, ⟨_, g, cap, cur, hb, _⟩, _⟩ := h
  have c1 : w.cell? ⟨b, 1, none⟩ = some (.int .i64 words) := blk_cell hb 1
  clear hb
  go_enter Try.func21, Try.ntmps21
  go_wp2
  go_ret
  exact ⟨rfl, rfl⟩

set_option maxHeartbeats 2000000 in
theorem q_all (w : World) (F : Nat → Prop) (b room words : Nat) (q : List (List Int)) (h : RQ w F b room words q) :
    Calls Try.prog 16 #[.pointer (some ⟨b, 0, none⟩)] w fun e w' => ∃ v, e = .returned v ∧ mk.R 28 w' 0 (fun k => w.heap.size ≤ k) v q ∧ Upd w w' (fun _ => False) := by
  have H := Aside0.mk h
  obtain ⟨f, sl, hRG, hf, hq, hr, hw, hs, hml⟩ := h
  have HRG := Aside0.mk hRG
  have HS := Aside0.mk hs
  have HML := Aside0.mk hml
  clear hs hml hRG
  go_enter Try.func16, Try.ntmps16
  go_wp2_with (go_at_call 14; refine (q_len _ _ _ _ _ _ H.out).mono ?_; rintro e w' ⟨rfl, rfl⟩)
  go_loopg [3, 7] q.length (fun g v z wr => ∃ (k : Nat), z = .int .i64 k ∧ k ≤ q.length ∧ q.length - k ≤ g ∧ Aside0 (mk.R 28 wr 0 (fun k => w.heap.size ≤ k) v (q.take k)) ∧ Aside0 (Upd w wr (fun _ => False)))
  case atStart => exact ⟨0, rfl, Nat.zero_le _, by omega, ⟨Kd.R_nil _ _ _ _ _⟩, ⟨Upd.refl _ _⟩⟩
  case round =>
    obtain ⟨k, rfl, hk, hg, HV, HU⟩ := hrel
    by_cases hlt : k < q.length
    · cases gk with
      | zero => omega
      | succ g1 =>
      obtain ⟨p, hp⟩ : ∃ p, p = at_ room f k := ⟨_, rfl⟩
      have hpl : p < room := by rw [hp]; exact at_lt hf
      obtain ⟨m, hm⟩ : ∃ m, m = q.getD k [] := ⟨_, rfl⟩
      have hsm : sl p = m := by rw [hp, hm]; exact HS.out k hlt
      have hmm : m ∈ q := by
        rw [hm]
        simp [List.getD, List.getElem?_eq_getElem hlt]
      have hmlen := HML.out m hmm
      have htk : q.take (k + 1) = q.take k ++ [m] := by
        rw [List.take_add_one, List.getElem?_eq_getElem hlt, hm]
        simp [List.getD, List.getElem?_eq_getElem hlt]
      have HTK := Aside0.mk htk
      have htl : (q.take k).length ≤ 100000 := by rw [List.length_take]; omega
      obtain ⟨l0, hl0⟩ : ∃ l0, l0 = q.take k := ⟨_, rfl⟩
      rw [← hl0] at HV HTK htl
      obtain ⟨_, g, cap, cur, hb0, _, hne, hcap, hgb, hmsg⟩ := HRG.out
      obtain ⟨u, hu, hV⟩ := hmsg p hpl
      rw [hsm] at hV
      obtain ⟨A', c', rfl⟩ := Kd.V_slice hV
      have hbl := blk_lt hb0
      have hgl := blk_lt hgb
      have c0 : wr.cell? ⟨b, 0, none⟩ = some (.slice (some ⟨g, 0, none⟩) room cap) := cell_upd0 HU.out (blk_cell hb0 0)
      have cg : wr.cell? ⟨g, p, none⟩ = some (.slice A' m.length c') := cell_upd0 HU.out ((blk_cell hgb p).trans hu)
      have hat : Aside0 (∀ X, Upd w X (fun _ => False) → Calls Try.prog 26 #[.pointer (some ⟨b, 0, none⟩), .int .i64 k] X fun e w' => e = .returned (.int .i64 p) ∧ Upd X w' (fun _ => False)) := ⟨by
        intro X hX
        rw [hp]
        exact (at_calls X F b room words f q.length k sl (HRG.out.upd0 hX) (by omega) (by omega) (by omega)).mono (fun e w' ⟨he, hq⟩ => ⟨he, Upd.of_q hq⟩)⟩
      have hcl : Aside0 (∀ X, Upd w X (fun _ => False) → Calls Try.prog 25 #[.slice A' m.length c'] X fun e w' => ∃ v, e = .returned v ∧ nk.R 37 w' 0 (fun k => X.heap.size ≤ k) v m ∧ Upd X w' (fun _ => False)) := ⟨by
        intro X hX
        exact clone_calls A' c' m X (Kd.F_now (Kd.F_kept (Kd.V_F hV) hX.kept (fun _ _ h => h))) (by omega)⟩
      clear hb0 hne hcap hgb hmsg hu hV hsm hmm hp hm
      have b0 : (0 : Int) ≤ (p : Int) := by omega
      have b1 : (p : Int) < (room : Int) := by omega
      have e1 : decide ((k : Int) < (q.length : Int)) = true := by rw [decide_eq_true_eq]; omega
      have b2 : (k : Int) < (q.length : Int) := by omega
      have hbr : b < wr.heap.size := Nat.lt_of_lt_of_le hbl HU.out.size
      have hgr : g < wr.heap.size := Nat.lt_of_lt_of_le hgl HU.out.size
      have nb : ¬ w.heap.size ≤ b := by omega
      have ng : ¬ w.heap.size ≤ g := by omega
      go_wp2_with fail
      go_region_held3 (fun w' => w'.cell? ⟨b, 0, none⟩ = some (.slice (some ⟨g, 0, none⟩) room cap) ∧ w'.cell? ⟨g, p, none⟩ = some (.slice A' m.length c')) (first | exact ⟨k4, k5⟩ | exact ⟨k2, k3⟩ | exact ⟨k0, k1⟩ | go_keep)
        (first
          | (go_at_call 26; refine (hat.out _ ?_).mono ?_; exact HU.out.drew; rintro e w4 ⟨rfl, hu⟩; have HU4 := Aside0.mk ((HU.out.drew).step hu); have HV4 := Aside0.mk (R_upd0 HV.out (((Upd.refl wr (fun _ => False)).drew).step hu)); have k0 := cell_upd0 hu c0; have k1 := cell_upd0 hu cg; have HVO := Aside0.mk (fun k hk => own_lt (Kd.R_own HV4.out).choose_spec k hk); clear hu)
          | (go_at_call 25; refine (hcl.out _ HU4.out).mono ?_; rintro e w5 ⟨v5, rfl, hr, hu⟩; have HU5 := Aside0.mk (HU4.out.step hu); have HV5 := Aside0.mk (R_upd0 HV4.out hu); have k2 := cell_upd0 hu k0; have k3 := cell_upd0 hu k1; obtain ⟨A5, c5, rfl⟩ := Kd.R_slice hr; have hz4 := HU4.out.size; have hz5 := hu.size; have HR5 := Aside0.mk hr; clear hr hu k0 k1)
          | (refine Kd.R_append_step mk (w0 := w5) (W := w5) 0 rfl (.tmp 10) (.tmp 21) 22 28 (.slice none 0 0) 24 rfl Try.underlying22 info28 rfl (by decide) (by decide) _ l0 m [.slice A5 m.length c5] (fun k => w.heap.size ≤ k) (fun k => w4.heap.size ≤ k) rfl rfl ⟨_, rfl, HR5.out⟩ (fun k hk => ⟨Nat.le_trans hz4 hk, fun h => Nat.lt_irrefl _ (Nat.lt_of_lt_of_le (HVO.out k h.symm) hk)⟩) (fun k hk => Nat.le_trans (Nat.le_trans hz4 hz5) hk) HV5.out (Below.refl _ _) (Nat.zero_le _) (by omega) ?_; intro v6 w6 ho hb6 hg6 hat6; have hu6 : Upd w5 w6 (fun k => w.heap.size ≤ k) := Upd.of_grown hg6 (fun k hk => HV5.out.1 k hk); have k4 := cell_kept k2 hu6.kept nb; have k5 := cell_kept k3 hu6.kept ng; have HU6 := Aside0.mk (HU5.out.trans hu6 (fun k hk => .inr hk)); have HV6 := Aside0.mk ho; clear ho hb6 hg6 hat6 hu6 k2 k3))
      go_wp2_with fail
      go_roundg g1
      case rel => exact ⟨k + 1, by go_num, by omega, by omega, ⟨by rw [HTK.out]; exact HV6.out⟩, HU6⟩
      case measure => omega
    · have e1 : decide ((k : Int) < (q.length : Int)) = false := by rw [decide_eq_false_iff_not]; omega
      have e2 : (q.length : Int) ≤ (k : Int) := by omega
      have HT : Aside0 (q.take k = q) := ⟨List.take_of_length_le (by omega)⟩
      go_wp2_with fail
      go_ret
      exact ⟨_, rfl, by rw [← HT.out]; exact HV.out, HU.out⟩
end Go.Proofs.Ytnnoeomjamlhbaa.RingAll
