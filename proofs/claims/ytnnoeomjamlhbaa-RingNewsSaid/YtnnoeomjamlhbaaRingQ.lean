import Derived.Test.YtnnoeomjamlhbaaRing
set_option linter.unusedVariables false
set_option linter.unusedSimpArgs false
namespace Go.Proofs.Ytnnoeomjamlhbaa.RingQ
open Go.RowKit Go.Proofs.YtnnoeomjamlhbaaW.PrintWords Go.Proofs.Ytnnoeomjamlhbaa.Own Go.Proofs.Ytnnoeomjamlhbaa.SlU Go.Proofs.Ytnnoeomjamlhbaa.Ring

theorem at_eq {room first k : Nat} (h : first < room) (hk : k ≤ room) : at_ room first k = if first + k < room then first + k else first + k - room := by
  unfold at_
  split
  · rename_i h1
    exact Nat.mod_eq_of_lt h1
  · rename_i h1
    rw [Nat.mod_eq_sub_mod (by omega), Nat.mod_eq_of_lt (by omega)]
theorem at_lt {room first k : Nat} (h : first < room) : at_ room first k < room := Nat.mod_lt _ (by omega)
theorem at_zero {room first : Nat} (h : first < room) : at_ room first 0 = first := by rw [at_eq h (by omega)]; simp [h]
theorem at_ne {room first k n : Nat} (h : first < room) (h1 : k < n) (h2 : n < room) : at_ room first k ≠ at_ room first n := by
  rw [at_eq h (by omega), at_eq h (by omega)]
  split <;> split <;> omega
theorem at_succ {room first k : Nat} (h : first < room) (h1 : k + 1 ≤ room) : at_ room (at_ room first 1) k = at_ room first (k + 1) := by
  have h3 : at_ room first 1 < room := at_lt h
  rw [at_eq h3 (by omega), at_eq h (by omega), at_eq h (by omega)]
  split <;> split <;> (try split) <;> omega

/-- The Ring at block b tells these messages, the first one first. -/
def RQ (w : World) (F : Nat → Prop) (b room words : Nat) (q : List (List Int)) : Prop :=
  ∃ first sl, RG w F b room words first q.length sl ∧ first < room ∧ q.length ≤ room ∧ room ≤ 100000 ∧ words ≤ 100000 ∧ (∀ k, k < q.length → sl (at_ room first k) = q.getD k []) ∧ ∀ m ∈ q, m.length ≤ words
namespace RQ
variable {w w1 : World} {F G : Nat → Prop} {b room words : Nat} {q : List (List Int)}
theorem lt (h : RQ w F b room words q) : b < w.heap.size := by
  obtain ⟨_, _, h, _⟩ := h
  exact h.lt
theorem mono (h : RQ w F b room words q) (hs : ∀ k, F k → G k) : RQ w G b room words q := by
  obtain ⟨f, sl, h, r⟩ := h
  exact ⟨f, sl, h.mono hs, r⟩
theorem bound (h : RQ w F b room words q) : RQ w (fun k => F k ∧ k < w.heap.size) b room words q := by
  obtain ⟨f, sl, h, r⟩ := h
  exact ⟨f, sl, h.bound, r⟩
theorem upd' (h : RQ w G b room words q) (hu : Upd w w1 F) (hd : ∀ k, G k → k < w.heap.size → ¬ F k) : RQ w1 G b room words q := by
  obtain ⟨f, sl, h, r⟩ := h
  exact ⟨f, sl, h.upd' hu hd, r⟩
theorem upd0 (h : RQ w G b room words q) (hu : Upd w w1 (fun _ => False)) : RQ w1 G b room words q := h.upd' hu (fun _ _ _ h => h)
end RQ

theorem q_new (w : World) (n m : Nat) (h1 : 1 ≤ n) (h2 : n ≤ 32) (h3 : 1 ≤ m) (h4 : m ≤ 32) :
    Calls Try.prog 9 #[.int .i64 n, .int .i64 m] w fun e w' => ∃ b, e = .returned (.tuple #[.pointer (some ⟨b, 0, none⟩), .int .i64 0]) ∧ w.heap.size ≤ b ∧ RQ w' (fun k => w.heap.size ≤ k) b n m [] ∧ Upd w w' (fun _ => False) := by
  refine (new_calls w n m h1 h2 h3 h4).mono ?_
  rintro e w' ⟨b, rfl, hb, hr, hu⟩
  exact ⟨b, rfl, hb, ⟨0, _, hr, by omega, by simp, by omega, by omega, fun k hk => by simp at hk, fun m hm => by simp at hm⟩, hu⟩

theorem q_len (w : World) (F : Nat → Prop) (b room words : Nat) (q : List (List Int)) (h : RQ w F b room words q) :
    Calls Try.prog 14 #[.pointer (some ⟨b, 0, none⟩)] w fun e w' => e = .returned (.int .i64 q.length) ∧ w = w' := by
  obtain ⟨f, sl, h, _⟩ := h
  exact len_calls w F b room words f q.length sl h

theorem q_peek0 (w : World) (F : Nat → Prop) (b room words : Nat) (h : RQ w F b room words []) :
    Calls Try.prog 15 #[.pointer (some ⟨b, 0, none⟩)] w fun e w' => e = .returned (.tuple #[.slice none 0 0, .bool false]) ∧ w = w' := by
  obtain ⟨f, sl, h, _⟩ := h
  exact peek0_calls w F b room words f sl h
theorem q_peek (w : World) (F : Nat → Prop) (b room words : Nat) (m : List Int) (q : List (List Int)) (h : RQ w F b room words (m :: q)) :
    Calls Try.prog 15 #[.pointer (some ⟨b, 0, none⟩)] w fun e w' => ∃ v, e = .returned (.tuple #[v, .bool true]) ∧ nk.R 37 w' 0 (fun k => w.heap.size ≤ k) v m ∧ Upd w w' (fun _ => False) := by
  obtain ⟨f, sl, h, hf, hq, hr, hw, hs, hm⟩ := h
  have h0 : sl f = m := by have := hs 0 (by simp); rwa [at_zero hf] at this
  have hl := hm m (by simp)
  rw [← h0]
  exact peek_calls w F b room words f _ sl h hf (by simp) (by rw [h0]; omega)

theorem q_take0 (w : World) (F : Nat → Prop) (b room words : Nat) (h : RQ w F b room words []) :
    Calls Try.prog 12 #[.pointer (some ⟨b, 0, none⟩)] w fun e w' => e = .returned (.tuple #[.slice none 0 0, .bool false]) ∧ w = w' := by
  obtain ⟨f, sl, h, _⟩ := h
  exact take0_calls w F b room words f sl h
theorem q_take (w : World) (F : Nat → Prop) (b room words : Nat) (m : List Int) (q : List (List Int)) (h : RQ w F b room words (m :: q)) :
    Calls Try.prog 12 #[.pointer (some ⟨b, 0, none⟩)] w fun e w' => ∃ v, e = .returned (.tuple #[v, .bool true]) ∧ nk.R 37 w' 0 (fun k => w.heap.size ≤ k) v m ∧ RQ w' F b room words q ∧ Upd w w' F := by
  obtain ⟨f, sl, h, hf, hq, hr, hw, hs, hm⟩ := h
  have h0 : sl f = m := by have := hs 0 (by simp); rwa [at_zero hf] at this
  have hl := hm m (by simp)
  simp only [List.length_cons] at hq h
  refine (take_calls w F b room words f q.length sl h hf (by rw [h0]; omega) hr (by omega)).mono ?_
  rintro e w' ⟨v, rfl, hv, hR, hu⟩
  rw [h0] at hv
  refine ⟨v, rfl, hv, ⟨_, _, hR, at_lt hf, by omega, hr, hw, fun k hk => ?_, fun x hx => hm x (by simp [hx])⟩, hu⟩
  rw [at_succ hf (by omega)]
  have h1 : at_ room f (k + 1) ≠ f := by
    have := at_ne hf (k := 0) (n := k + 1) (by omega) (by omega)
    rw [at_zero hf] at this
    exact fun h => this h.symm
  unfold setSl
  rw [if_neg h1, hs (k + 1) (by simp; omega)]
  simp

theorem q_put_long (w : World) (F : Nat → Prop) (b room words : Nat) (q : List (List Int)) (A : Option Addr) (c n : Nat) (h : RQ w F b room words q) (h1 : words < n) :
    Calls Try.prog 11 #[.pointer (some ⟨b, 0, none⟩), .slice A n c] w fun e w' => e = .returned (.int .i64 2) ∧ w = w' := by
  obtain ⟨f, sl, h, _⟩ := h
  exact put_long w F b room words f _ sl A c n h h1
theorem q_put_full (w : World) (F : Nat → Prop) (b room words : Nat) (q : List (List Int)) (A : Option Addr) (c n : Nat) (h : RQ w F b room words q) (h1 : n ≤ words) (h2 : q.length = room) :
    Calls Try.prog 11 #[.pointer (some ⟨b, 0, none⟩), .slice A n c] w fun e w' => e = .returned (.int .i64 8) ∧ ∃ q, w' = w.drewN q := by
  obtain ⟨f, sl, h, _⟩ := h
  rw [h2] at h
  exact put_full w F b room words f sl A c n h h1
theorem q_put (w : World) (F : Nat → Prop) (b room words : Nat) (q : List (List Int)) (A : Option Addr) (c : Nat) (m : List Int) (h : RQ w F b room words q) (hA : nk.C w A m.length m) (h1 : m.length ≤ words) (h2 : q.length < room) :
    Calls Try.prog 11 #[.pointer (some ⟨b, 0, none⟩), .slice A m.length c] w fun e w' => e = .returned (.int .i64 0) ∧ RQ w' (fun k => F k ∨ w.heap.size ≤ k) b room words (q ++ [m]) ∧ Upd w w' F := by
  obtain ⟨f, sl, h, hf, hq, hr, hw, hs, hm⟩ := h
  refine (put_calls w F b room words f q.length sl A c m h hA h1 h2 hf hr hw).mono ?_
  rintro e w' ⟨rfl, hR, hu⟩
  refine ⟨rfl, ⟨f, _, by rw [List.length_append]; exact hR, hf, by simp; omega, hr, hw, fun k hk => ?_, fun x hx => ?_⟩, hu⟩
  · simp only [List.length_append, List.length_singleton] at hk
    unfold setSl
    by_cases hkq : k = q.length
    · subst hkq
      rw [if_pos rfl]
      simp
    · rw [if_neg (at_ne hf (by omega) h2), hs k (by omega)]
      simp [List.getD, List.getElem?_append_left (show k < q.length by omega)]
  · rw [List.mem_append, List.mem_singleton] at hx
    exact hx.elim (hm x) (fun h => by rw [h]; exact h1)
end Go.Proofs.Ytnnoeomjamlhbaa.RingQ
