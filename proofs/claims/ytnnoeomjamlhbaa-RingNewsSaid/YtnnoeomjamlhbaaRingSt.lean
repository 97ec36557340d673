import Derived.Test.YtnnoeomjamlhbaaRingClr
set_option linter.unusedVariables false
set_option linter.unusedSimpArgs false
namespace Go.Proofs.Ytnnoeomjamlhbaa.RingSt
attribute [local go_sem] Go.Proofs.Ytnnoeomjamlhbaa.Own.min_two Go.Proofs.Ytnnoeomjamlhbaa.Own.min2_mn
open Go.RowKit Go.Proofs.YtnnoeomjamlhbaaW.PrintWords Go.Proofs.Ytnnoeomjamlhbaa.Own Go.Proofs.Ytnnoeomjamlhbaa.SlU Go.Proofs.Ytnnoeomjamlhbaa.Ring Go.Proofs.Ytnnoeomjamlhbaa.RingQ Go.Proofs.Ytnnoeomjamlhbaa.RingTold Go.Proofs.Ytnnoeomjamlhbaa.RingAll Go.Proofs.Ytnnoeomjamlhbaa.RingClr

def putS (words room : Nat) (q : List (List Int)) (m : List Int) : List (List Int) × Int :=
  if words < m.length then (q, 2) else if room ≤ q.length then (q, 8) else (q ++ [m], 0)
def takeS : List (List Int) → List (List Int) × List Int × Bool
  | [] => ([], [], false)
  | m :: q => (q, m, true)

theorem put_any (w : World) (F : Nat → Prop) (b room words : Nat) (q : List (List Int)) (A : Option Addr) (c : Nat) (m : List Int) (h : RQ w F b room words q) (hA : nk.C w A m.length m) :
    Calls Try.prog 11 #[.pointer (some ⟨b, 0, none⟩), .slice A m.length c] w fun e w' => e = .returned (.int .i64 (putS words room q m).2) ∧ RQ w' (fun k => F k ∨ w.heap.size ≤ k) b room words (putS words room q m).1 ∧ Upd w w' F := by
  unfold putS
  by_cases h1 : words < m.length
  · rw [if_pos h1]
    refine (q_put_long w F b room words q A c m.length h h1).mono ?_
    rintro e w' ⟨rfl, rfl⟩
    exact ⟨rfl, h.mono (fun k hk => .inl hk), Upd.refl _ _⟩
  · rw [if_neg h1]
    by_cases h2 : room ≤ q.length
    · rw [if_pos h2]
      have h3 : q.length = room := by
        obtain ⟨_, _, _, _, h4, _⟩ := id h
        omega
      refine (q_put_full w F b room words q A c m.length h (by omega) h3).mono ?_
      rintro e w' ⟨rfl, hq⟩
      exact ⟨rfl, (h.upd0 (Upd.of_q hq)).mono (fun k hk => .inl hk), (Upd.of_q hq).mono (fun _ h => h.elim)⟩
    · rw [if_neg h2]
      exact q_put w F b room words q A c m h hA (by omega) (by omega)
theorem take_any (w : World) (F : Nat → Prop) (b room words : Nat) (q : List (List Int)) (h : RQ w F b room words q) :
    Calls Try.prog 12 #[.pointer (some ⟨b, 0, none⟩)] w fun e w' => ∃ v, e = .returned (.tuple #[v, .bool (takeS q).2.2]) ∧ nk.R 37 w' 0 (fun k => w.heap.size ≤ k) v (takeS q).2.1 ∧ RQ w' F b room words (takeS q).1 ∧ Upd w w' F := by
  cases q with
  | nil =>
    refine (q_take0 w F b room words h).mono ?_
    rintro e w' ⟨rfl, rfl⟩
    exact ⟨_, rfl, Kd.R_nil _ _ _ _ _, h, Upd.refl _ _⟩
  | cons m q => exact q_take w F b room words m q h
theorem peek_any (w : World) (F : Nat → Prop) (b room words : Nat) (q : List (List Int)) (h : RQ w F b room words q) :
    Calls Try.prog 15 #[.pointer (some ⟨b, 0, none⟩)] w fun e w' => ∃ v, e = .returned (.tuple #[v, .bool (takeS q).2.2]) ∧ nk.R 37 w' 0 (fun k => w.heap.size ≤ k) v (takeS q).2.1 ∧ Upd w w' (fun _ => False) := by
  cases q with
  | nil =>
    refine (q_peek0 w F b room words h).mono ?_
    rintro e w' ⟨rfl, rfl⟩
    exact ⟨_, rfl, Kd.R_nil _ _ _ _ _, Upd.refl _ _⟩
  | cons m q => exact q_peek w F b room words m q h

theorem few_calls (A : Option Addr) (c : Nat) (m : List Int) (w : World) (hc : m.length ≤ c) :
    Calls Try.prog 28 #[.slice A m.length c] w fun e w' => e = .returned (.slice A (m.take 40).length c) ∧ w = w' := by
  have hcut := cut_min 28 37 Try.underlying28 info A m c 40 40 rfl hc
  obtain ⟨n, hn⟩ : ∃ n, n = (m.take 40).length := ⟨_, rfl⟩
  rw [← hn] at hcut ⊢
  clear hn
  go_enter Try.func28, Try.ntmps28
  go_wp2_with fail
  go_ret
  exact ⟨rfl, rfl⟩

theorem begin_calls (r0 w0 : Int) (w : World) :
    Calls Try.prog 17 #[.int .i64 r0, .int .i64 w0] w fun e w' => ∃ n m b : Nat, e = .returned (.tuple #[.pointer (some ⟨b, 0, none⟩), .agg #[.int .i64 n, .int .i64 m, .slice none 0 0]]) ∧ (1 ≤ n ∧ n ≤ 32 ∧ 1 ≤ m ∧ m ≤ 32) ∧ w.heap.size ≤ b ∧ RQ w' (fun k => w.heap.size ≤ k) b n m [] ∧ Upd w w' (fun _ => False) := by
  obtain ⟨k1, hk1, h1⟩ := u64_mod r0 32 (by omega) (by omega)
  obtain ⟨k2, hk2, h2⟩ := u64_mod w0 32 (by omega) (by omega)
  have a1 : (1 : Int) + (k1 : Int) = ((k1 + 1 : Nat) : Int) := by omega
  have a2 : (1 : Int) + (k2 : Int) = ((k2 + 1 : Nat) : Int) := by omega
  go_enter Try.func17, Try.ntmps17
  go_wp2_with fail
  refine (q_new _ (k1 + 1) (k2 + 1) (by omega) (by omega) (by omega) (by omega)).mono ?_
  rintro e w1 ⟨b, rfl, hb, hq, hu⟩
  have HQ := Aside0.mk hq
  have HU := Aside0.mk hu
  have hz := hu.size
  have hbk : w1.heap[w.heap.size]? = some (.cells #[.int .i64 0, .int .i64 0, .slice none 0 0] 43 (0, 0)) := (hu.block (by simp) (fun h => h)).trans (heap_alloc_new w _)
  have f0 := blk_frozen hbk 0
  have f1 := blk_frozen hbk 1
  have f2 := blk_frozen hbk 2
  have d0 := blk_cell hbk 0
  have d1 := blk_cell hbk 1
  have d2 := blk_cell hbk 2
  have HBK := Aside0.mk hbk
  clear hq hu hbk
  simp at hz hb
  go_wp2_with fail
  refine bodyPost_ret (results_tc rfl _ _ w.heap.size 43 #[.int .i64 ((k1 + 1 : Nat) : Int), .int .i64 ((k2 + 1 : Nat) : Int), .slice none 0 0] (0, 0) _ rfl (blk_set (blk_set (blk_set HBK.out 0 _) 1 _) 2 _) Try.underlying43 rfl (by kernel_rfl)) rfl ?_
  have hX := (((Upd.refl w1 (fun k => k = w.heap.size)).setCell (p := ⟨w.heap.size, 0, none⟩) (.inl rfl) (.int .i64 ((k1 : Int) + 1))).setCell (p := ⟨w.heap.size, 1, none⟩) (.inl rfl) (.int .i64 ((k2 : Int) + 1))).setCell (p := ⟨w.heap.size, 2, none⟩) (.inl rfl) (.slice none 0 0)
  refine ⟨k1 + 1, k2 + 1, b, rfl, by omega, by omega, ((HQ.out.upd' hX (fun k hk _ h => by simp at hk; omega)).mono (fun k hk => by simp at hk; omega)), ((((Upd.refl w (fun _ => False)).alloc _).step HU.out).trans hX (fun k hk => .inr (by omega)))⟩
end Go.Proofs.Ytnnoeomjamlhbaa.RingSt
