import Derived.Test.YtnnoeomjamlhbaaOwn
import Derived.Test.YtnnoeomjamlhbaaSlU
import Derived.Test.YtnnoeomjamlhbaaSameR
import Derived.Test.YtnnoeomjamlhbaaWN
import Derived.Test.YtnnoeomjamlhbaaWNEv
import Derived.BigQuiet
set_option linter.unusedVariables false
set_option linter.unusedSimpArgs false
namespace Go.Proofs.Ytnnoeomjamlhbaa.Ring
open Go.RowKit Go.Proofs.YtnnoeomjamlhbaaW.PrintWords Go.Proofs.Ytnnoeomjamlhbaa.Own Go.Proofs.Ytnnoeomjamlhbaa.SlU

abbrev mk : Kd (List Int) := Kd.slice 37 nk

/-- A value that reads as a message; what it leads to lies in F. -/
abbrev Msg (w : World) (F : Nat → Prop) (v : Value) (m : List Int) : Prop := Kd.V nk 37 w 0 F v m

/-- The Ring at block b: its slots as they lie. -/
def RG (w : World) (F : Nat → Prop) (b : Nat) (room words first many : Nat) (sl : Nat → List Int) : Prop :=
  F b ∧ ∃ g cap cur, w.heap[b]? = some (.cells #[.slice (some ⟨g, 0, none⟩) room cap, .int .i64 words, .int .i64 first, .int .i64 many] 58 (0, 0)) ∧ F g ∧ g ≠ b ∧ room ≤ cap ∧
    w.heap[g]? = some (.cells cur 28 (0, 0)) ∧ ∀ i, i < room → ∃ v, cur[i]? = some v ∧ Msg w (fun k => (F k ∧ k ≠ b) ∧ k ≠ g) v (sl i)

namespace RG
variable {w w1 : World} {F G : Nat → Prop} {b room words first many : Nat} {sl : Nat → List Int}
theorem lt (h : RG w F b room words first many sl) : b < w.heap.size := by
  obtain ⟨_, g, cap, cur, hb, _⟩ := h
  exact blk_lt hb
theorem mono (h : RG w F b room words first many sl) (hs : ∀ k, F k → G k) : RG w G b room words first many sl := by
  obtain ⟨h0, g, cap, cur, hb, hg, hne, hc, hgb, hm⟩ := h
  refine ⟨hs _ h0, g, cap, cur, hb, hs _ hg, hne, hc, hgb, fun i hi => ?_⟩
  obtain ⟨v, hv, hm⟩ := hm i hi
  exact ⟨v, hv, Kd.V_mono hm (fun k hk => ⟨⟨hs _ hk.1.1, hk.1.2⟩, hk.2⟩)⟩
theorem bound (h : RG w F b room words first many sl) : RG w (fun k => F k ∧ k < w.heap.size) b room words first many sl := by
  have hl := h.lt
  obtain ⟨h0, g, cap, cur, hb, hg, hne, hc, hgb, hm⟩ := h
  refine ⟨⟨h0, hl⟩, g, cap, cur, hb, ⟨hg, blk_lt hgb⟩, hne, hc, hgb, fun i hi => ?_⟩
  obtain ⟨v, hv, hm⟩ := hm i hi
  exact ⟨v, hv, Kd.V_mono (Kd.V_bound hm) (fun k hk => ⟨⟨⟨hk.1.1.1, hk.2⟩, hk.1.1.2⟩, hk.1.2⟩)⟩
theorem upd' (h : RG w G b room words first many sl) (hu : Upd w w1 F) (hd : ∀ k, G k → k < w.heap.size → ¬ F k) : RG w1 G b room words first many sl := by
  have hl := h.lt
  obtain ⟨h0, g, cap, cur, hb, hg, hne, hc, hgb, hm⟩ := h
  refine ⟨h0, g, cap, cur, (hu.block hl (hd _ h0 hl)).trans hb, hg, hne, hc, (hu.block (blk_lt hgb) (hd _ hg (blk_lt hgb))).trans hgb, fun i hi => ?_⟩
  obtain ⟨v, hv, hm⟩ := hm i hi
  exact ⟨v, hv, Kd.V_step hm (fun k hk hlt => hu.block hlt (hd k hk.1.1 hlt))⟩
theorem upd (h : RG w G b room words first many sl) (hu : Upd w w1 F) (hd : ∀ k, G k → k < w.heap.size → ¬ F k) : RG w1 (fun k => G k ∧ k < w.heap.size) b room words first many sl :=
  h.bound.upd' hu (fun k hk hlt => hd k hk.1 hlt)
theorem upd0 (h : RG w G b room words first many sl) (hu : Upd w w1 (fun _ => False)) : RG w1 G b room words first many sl := h.upd' hu (fun _ _ _ hk => hk)
end RG

/-- The k-th message's place. -/
def at_ (room first k : Nat) : Nat := (first + k) % room

theorem at_calls (w : World) (F : Nat → Prop) (b room words first many k : Nat) (sl : Nat → List Int) (h : RG w F b room words first many sl) (h1 : 1 ≤ room) (h2 : first + k ≤ 1000000) (h3 : room ≤ 1000000) :
    Calls Try.prog 26 #[.pointer (some ⟨b, 0, none⟩), .int .i64 k] w fun e w' => e = .returned (.int .i64 (at_ room first k : Nat)) ∧ ∃ q, w' = w.drewN q := by
  obtain ⟨_, g, cap, cur, hb, _⟩ := h
  have c0 : w.cell? ⟨b, 0, none⟩ = some (.slice (some ⟨g, 0, none⟩) room cap) := blk_cell hb 0
  have c2 : w.cell? ⟨b, 2, none⟩ = some (.int .i64 first) := blk_cell hb 2
  clear hb
  have hr0 : ¬ (room : Int) = 0 := by omega
  have hat : ((first : Int) + (k : Int)).tmod (room : Int) = ((at_ room first k : Nat) : Int) := by
    unfold at_
    rw [Int.tmod_eq_emod_of_nonneg (by omega), Int.natCast_emod, Int.natCast_add]
  have hlt : at_ room first k < room := Nat.mod_lt _ (by omega)
  go_enter Try.func26, Try.ntmps26
  go_wp2_with fail
  go_quiet (fail)
  go_wp2_with fail
  go_ret
  exact ⟨rfl, nq, rfl⟩

theorem len_calls (w : World) (F : Nat → Prop) (b room words first many : Nat) (sl : Nat → List Int) (h : RG w F b room words first many sl) :
    Calls Try.prog 14 #[.pointer (some ⟨b, 0, none⟩)] w fun e w' => e = .returned (.int .i64 many) ∧ w = w' := by
  obtain ⟨_, g, cap, cur, hb, _⟩ := h
  have c3 : w.cell? ⟨b, 3, none⟩ = some (.int .i64 many) := blk_cell hb 3
  clear hb
  go_enter Try.func14, Try.ntmps14
  go_wp2
  go_ret
  exact ⟨rfl, rfl⟩

theorem info28 : (Try.prog.info? 28).map (fun i => (i.zero, i.size, i.bytes)) = some (some (.slice none 0 0), 1, 24) := by kernel_rfl

theorem slots_of_N {w : World} {ok : Nat → Prop} {base e : Nat} {v : Value} {sl : List (List Int)} (h : Kd.N mk e w base ok v sl) (hp : 0 < sl.length) :
    ∃ g cap cur, v = .slice (some ⟨g, 0, none⟩) sl.length cap ∧ ok g ∧ base ≤ g ∧ sl.length ≤ cap ∧ w.heap[g]? = some (.cells cur e (0, 0)) ∧ ∀ i, i < sl.length → ∃ u, cur[i]? = some u ∧ Msg w (fun k => ok k ∧ k ≠ g) u (sl.getD i []) := by
  obtain ⟨g, cap, rfl, hbg, hgl, cur, hc⟩ := Kd.N_form h hp
  refine ⟨g, cap, cur, rfl, h.1 g (by simp [Value.ownBlock]), hbg, (Kd.N_reads' h).2.1, hc, fun i hi => ?_⟩
  obtain ⟨c, hcl, hK, hcc, _⟩ := Kd.N_elem h [] (i : Int) (by omega) (by omega)
  rw [Int.toNat_natCast] at hK hcc
  obtain ⟨A, c', rfl, hle, hF⟩ := Kd.FK_slice_open hK
  have h1 := hcc 0 _ rfl
  refine ⟨_, ?_, Kd.V_mk hle hF⟩
  have h2 := blk_cell hc i
  rw [← h2, ← h1]
  congr 2
  show i = i * 1 + 0
  omega

theorem new_calls (w : World) (n m : Nat) (h1 : 1 ≤ n) (h2 : n ≤ 32) (h3 : 1 ≤ m) (h4 : m ≤ 32) :
    Calls Try.prog 9 #[.int .i64 n, .int .i64 m] w fun e w' => ∃ b, e = .returned (.tuple #[.pointer (some ⟨b, 0, none⟩), .int .i64 0]) ∧ w.heap.size ≤ b ∧ RG w' (fun k => w.heap.size ≤ k) b n m 0 0 (fun _ => []) ∧ Upd w w' (fun _ => False) := by
  have e1 : ¬ (n : Int) < 1 := by omega
  have e2 : ¬ (32 : Int) < (n : Int) := by omega
  have e3 : ¬ (m : Int) < 1 := by omega
  have e4 : ¬ (32 : Int) < (m : Int) := by omega
  have d1 : decide ((n : Int) < 1) = false := by rw [decide_eq_false_iff_not]; omega
  have d2 : decide ((32 : Int) < (n : Int)) = false := by rw [decide_eq_false_iff_not]; omega
  have d2' : decide ((n : Int) > 32) = false := by rw [decide_eq_false_iff_not]; omega
  have d3 : decide ((m : Int) < 1) = false := by rw [decide_eq_false_iff_not]; omega
  have d4' : decide ((m : Int) > 32) = false := by rw [decide_eq_false_iff_not]; omega
  go_enter Try.func9, Try.ntmps9
  go_wp2_with (refine Kd.N_make mk (w0 := w) (W := w) w.heap.size 28 rfl rfl 22 (.tmp 20) (.tmp 20) rfl (n : Int) rfl rfl Try.underlying22 (.slice none 0 0) 24 info28 rfl (by decide) (by decide) [] (ok := fun k => w.heap.size ≤ k) (okp := fun _ => False) ?hzz (fun _ h => h.elim) (Nat.le_refl _) (by omega) (by omega) (Below.refl _ _) (Nat.le_refl _) ?hrest)
  case hzz => exact Kd.FK_slice_mk (l := []) (Nat.le_refl _) (Kd.F_nil nk w _)
  case hrest =>
    intro v1 w1 hN hB hg
    intros
    obtain ⟨g, cap, cur, rfl, hgg, _, hcap, hcur, hm⟩ := slots_of_N hN (by rw [List.length_replicate]; omega)
    rw [List.length_replicate] at hcap hm
    simp only [List.length_replicate]
    have hgl := blk_lt hcur
    have HM := Aside0.mk hm
    have HC := Aside0.mk hcur
    have HU := Aside0.mk (Upd.of_below hB (fun _ => False))
    have hz := hB.size
    clear hN hB hg hm hcur
    go_wp2_with fail
    go_ret2
    refine ⟨w1.heap.size, rfl, hz, ⟨hz, g, cap, cur, heap_alloc_new w1 _, hgg, by omega, hcap, blk_alloc HC.out _, fun i hi => ?_⟩, HU.out.alloc _⟩
    obtain ⟨u, hu, hv⟩ := HM.out i hi
    have hv' : Msg w1 (fun k => w.heap.size ≤ k ∧ k ≠ g) u [] := by
      have : (List.replicate n ([] : List Int)).getD i [] = [] := by simp [List.getD, List.getElem?_replicate, hi]
      rw [this] at hv
      exact hv
    exact ⟨u, hu, Kd.V_alloc (Kd.V_mono (Kd.V_bound hv') (fun k hk => ⟨⟨hk.1.1, by have := hk.2; omega⟩, hk.1.2⟩)) _⟩

theorem peek0_calls (w : World) (F : Nat → Prop) (b room words first : Nat) (sl : Nat → List Int) (h : RG w F b room words first 0 sl) :
    Calls Try.prog 15 #[.pointer (some ⟨b, 0, none⟩)] w fun e w' => e = .returned (.tuple #[.slice none 0 0, .bool false]) ∧ w = w' := by
  go_enter Try.func15, Try.ntmps15
  go_wp2_with (go_at_call 14; refine (len_calls _ _ _ _ _ _ _ _ h).mono ?_; rintro e w' ⟨rfl, rfl⟩)
  go_ret2
  exact ⟨rfl, rfl⟩

theorem peek_calls (w : World) (F : Nat → Prop) (b room words first many : Nat) (sl : Nat → List Int) (h : RG w F b room words first many sl) (h1 : first < room) (h2 : 0 < many) (h3 : (sl first).length ≤ 1000000) :
    Calls Try.prog 15 #[.pointer (some ⟨b, 0, none⟩)] w fun e w' => ∃ v, e = .returned (.tuple #[v, .bool true]) ∧ nk.R 37 w' 0 (fun k => w.heap.size ≤ k) v (sl first) ∧ Upd w w' (fun _ => False) := by
  have H := Aside0.mk h
  obtain ⟨_, g, cap, cur, hb, hFg, hne, hcap, hgb, hm⟩ := h
  obtain ⟨u, hu, hV⟩ := hm first h1
  have c0 : w.cell? ⟨b, 0, none⟩ = some (.slice (some ⟨g, 0, none⟩) room cap) := blk_cell hb 0
  have c2 : w.cell? ⟨b, 2, none⟩ = some (.int .i64 first) := blk_cell hb 2
  have cg : w.cell? ⟨g, first, none⟩ = some u := (blk_cell hgb first).trans hu
  obtain ⟨A, c, rfl⟩ := Kd.V_slice hV
  have RC := Aside0.mk (Kd.V_reads' hV).2.2
  clear hb hgb hm hV hu
  have b0 : (0 : Int) ≤ (first : Int) := by omega
  have b1 : (first : Int) < (room : Int) := by omega
  have e0 : ((many : Int) == 0) = false := by rw [beq_eq_false_iff_ne]; omega
  have e1 : ¬ (many : Int) = 0 := by omega
  go_enter Try.func15, Try.ntmps15
  go_wp2_with (go_at_call 14; refine (len_calls _ _ _ _ _ _ _ _ H.out).mono ?_; rintro e w' ⟨rfl, rfl⟩)
  go_region_held3 (fun w' => w'.cell? ⟨b, 0, none⟩ = some (.slice (some ⟨g, 0, none⟩) room cap) ∧ w'.cell? ⟨b, 2, none⟩ = some (.int .i64 first) ∧ w'.cell? ⟨g, first, none⟩ = some (.slice A (sl first).length c)) (first | go_keep | exact ⟨k0, k1, k2⟩)
    (first
      | (go_at_call 25; refine (clone_calls A c (sl first) w.drew RC.out (by omega)).mono ?_; rintro e w2 ⟨v, rfl, hr, hu⟩; have k0 := cell_upd0 hu c0; have k1 := cell_upd0 hu c2; have k2 := cell_upd0 hu cg; have HR := Aside0.mk hr; have HU := Aside0.mk (((Upd.refl w (fun _ => False)).drew).step hu); clear hr hu))
  go_wp2_with fail
  go_ret2
  exact ⟨_, rfl, HR.out, HU.out⟩

/-- A slot is written anew. -/
def setSl (sl : Nat → List Int) (i : Nat) (m : List Int) : Nat → List Int := fun j => if j = i then m else sl j

theorem RG.store {w : World} {F : Nat → Prop} {b room words first many : Nat} {sl : Nat → List Int} {g cap : Nat} {cur : Array Value} {u : Value} {m : List Int} {i : Nat} (hFb : F b)
    (hb : w.heap[b]? = some (.cells #[.slice (some ⟨g, 0, none⟩) room cap, .int .i64 words, .int .i64 first, .int .i64 many] 58 (0, 0))) (hFg : F g) (hne : g ≠ b) (hcap : room ≤ cap)
    (hgb : w.heap[g]? = some (.cells cur 28 (0, 0))) (hm : ∀ i, i < room → ∃ v, cur[i]? = some v ∧ Msg w (fun k => (F k ∧ k ≠ b) ∧ k ≠ g) v (sl i)) (hi : i < room)
    (hu : Msg w (fun k => (F k ∧ k ≠ b) ∧ k ≠ g) u m) : RG (w.setCell ⟨g, i, none⟩ u) F b room words first many (setSl sl i m) := by
  refine ⟨hFb, g, cap, cur.setIfInBounds i u, blk_far hb (Ne.symm hne) _, hFg, hne, hcap, blk_set hgb i _, fun j hj => ?_⟩
  unfold setSl
  by_cases hji : j = i
  · subst hji
    obtain ⟨v, hv, _⟩ := hm j hj
    have hjl := (Array.getElem?_eq_some_iff.1 hv).1
    exact ⟨u, by simp [hjl], by rw [if_pos rfl]; exact Kd.V_far (p := ⟨g, j, none⟩) hu (fun k hk => hk.2) _⟩
  · obtain ⟨v, hv, hV⟩ := hm j hj
    exact ⟨v, by rw [Array.getElem?_setIfInBounds_ne (Ne.symm hji)]; exact hv, by rw [if_neg hji]; exact Kd.V_far (p := ⟨g, i, none⟩) hV (fun k hk => hk.2) _⟩
theorem RG.put {w : World} {F : Nat → Prop} {b room words first many : Nat} {sl : Nat → List Int} {g cap : Nat} {u : Value} {m : List Int} {i : Nat} (h : RG w F b room words first many sl) (hc : w.cell? ⟨b, 0, none⟩ = some (.slice (some ⟨g, 0, none⟩) room cap)) (hi : i < room)
    (hu : Msg w (fun k => (F k ∧ k ≠ b) ∧ k ≠ g) u m) : RG (w.setCell ⟨g, i, none⟩ u) F b room words first many (setSl sl i m) := by
  obtain ⟨h0, g', cap', cur, hb, hFg, hne, hcap, hgb, hm⟩ := h
  have h2 := (blk_cell hb 0).symm.trans hc
  simp at h2
  obtain ⟨rfl, rfl⟩ := h2
  exact RG.store h0 hb hFg hne hcap hgb hm hi hu
theorem RG.ctl {w w1 : World} {F : Nat → Prop} {b room words first many first' many' : Nat} {sl : Nat → List Int} (h : RG w F b room words first many sl) (hu : Upd w w1 (fun k => k = b))
    (hb : ∀ g cap, w.heap[b]? = some (.cells #[.slice (some ⟨g, 0, none⟩) room cap, .int .i64 words, .int .i64 first, .int .i64 many] 58 (0, 0)) → w1.heap[b]? = some (.cells #[.slice (some ⟨g, 0, none⟩) room cap, .int .i64 words, .int .i64 first', .int .i64 many'] 58 (0, 0))) :
    RG w1 F b room words first' many' sl := by
  obtain ⟨h0, g, cap, cur, hb0, hFg, hne, hcap, hgb, hm⟩ := h
  refine ⟨h0, g, cap, cur, hb g cap hb0, hFg, hne, hcap, (hu.block (blk_lt hgb) hne).trans hgb, fun i hi => ?_⟩
  obtain ⟨v, hv, hV⟩ := hm i hi
  exact ⟨v, hv, Kd.V_step hV (fun k hk hlt => hu.block hlt hk.1.2)⟩

theorem take0_calls (w : World) (F : Nat → Prop) (b room words first : Nat) (sl : Nat → List Int) (h : RG w F b room words first 0 sl) :
    Calls Try.prog 12 #[.pointer (some ⟨b, 0, none⟩)] w fun e w' => e = .returned (.tuple #[.slice none 0 0, .bool false]) ∧ w = w' := by
  go_enter Try.func12, Try.ntmps12
  go_wp2_with (go_at_call 15; refine (peek0_calls _ _ _ _ _ _ _ h).mono ?_; rintro e w' ⟨rfl, rfl⟩)
  go_ret2
  exact ⟨rfl, rfl⟩

set_option maxHeartbeats 1000000 in
theorem take_calls (w : World) (F : Nat → Prop) (b room words first many : Nat) (sl : Nat → List Int) (h : RG w F b room words first (many + 1) sl) (h1 : first < room) (h3 : (sl first).length ≤ 1000000) (h4 : room ≤ 100000) (h5 : many ≤ 100000) :
    Calls Try.prog 12 #[.pointer (some ⟨b, 0, none⟩)] w fun e w' => ∃ v, e = .returned (.tuple #[v, .bool true]) ∧ nk.R 37 w' 0 (fun k => w.heap.size ≤ k) v (sl first) ∧ RG w' F b room words (at_ room first 1) many (setSl sl first []) ∧ Upd w w' F := by
  have H := Aside0.mk h
  have hbl := h.lt
  clear h
  go_enter Try.func12, Try.ntmps12
  go_wp2_with fail
  refine (peek_calls w F b room words first (many + 1) sl H.out h1 (by omega) h3).mono ?_
  rintro e w2 ⟨v, rfl, hr, hu⟩
  have HR := Aside0.mk hr
  have h := H.out.bound.upd0 hu
  have HU := Aside0.mk hu
  have hz2 := hu.size
  clear hr hu
  obtain ⟨hFb, g, cap, cur, hb, hFg, hne, hcap, hgb, hm⟩ := h
  obtain ⟨u, hu, hV⟩ := hm first h1
  have c0 : w2.cell? ⟨b, 0, none⟩ = some (.slice (some ⟨g, 0, none⟩) room cap) := blk_cell hb 0
  have c2 : w2.cell? ⟨b, 2, none⟩ = some (.int .i64 first) := blk_cell hb 2
  have cg : w2.cell? ⟨g, first, none⟩ = some u := (blk_cell hgb first).trans hu
  have fg : w2.frozen? ⟨g, first, none⟩ = false := blk_frozen hgb first
  have R1 := Aside0.mk (RG.store hFb hb hFg hne hcap hgb hm h1 (Kd.V_nil nk 37 w2 0 _) : RG (w2.setCell ⟨g, first, none⟩ (.slice none 0 0)) _ b room words first (many + 1) (setSl sl first []))
  have hgw : g < w.heap.size := hFg.2
  have HFg := Aside0.mk hFg
  have HFb := Aside0.mk hFb
  have hne' : ¬ g = b := hne
  have hne2 : ¬ b = g := fun h => hne h.symm
  clear hb hgb hm hV hu hFb hFg hne
  have b0 : (0 : Int) ≤ (first : Int) := by omega
  have b1 : (first : Int) < (room : Int) := by omega
  go_wp2_with fail
  go_region_held3 (fun w' => w'.cell? ⟨b, 0, none⟩ = some (.slice (some ⟨g, 0, none⟩) room cap) ∧ w'.cell? ⟨b, 2, none⟩ = some (.int .i64 first)) (first | go_keep | exact ⟨cell_afar1 c0 hne2, cell_afar1 c2 hne2⟩)
    (fail)
  go_wp2_with fail
  obtain ⟨W3, hW3⟩ : ∃ W3, W3 = (w2.setCell ⟨g, first, none⟩ (.slice none 0 0)).drew := ⟨_, rfl⟩
  rw [← hW3]
  have R3 := Aside0.mk (show RG W3 _ b room words first (many + 1) (setSl sl first []) by rw [hW3]; exact R1.out.upd0 (Upd.refl _ _).drew)
  have U3 : Aside0 (Upd w2 W3 (fun k => k = g)) := ⟨by rw [hW3]; exact ((Upd.refl w2 (fun k => k = g)).setCell (.inl rfl) _).drew⟩
  clear hW3 R1 c0 c2 cg fg
  refine (at_calls W3 _ b room words first (many + 1) 1 _ R3.out (by omega) (by omega) (by omega)).mono ?_
  rintro e w4 ⟨rfl, hq⟩
  have hu4 := Upd.of_q hq
  have R4 := R3.out.upd0 hu4
  have U4 := Aside0.mk (U3.out.step hu4)
  have hR4 := Aside0.mk R4
  obtain ⟨_, g', cap', cur', hb4, _⟩ := R4
  have c2 : w4.cell? ⟨b, 2, none⟩ = some (.int .i64 first) := blk_cell hb4 2
  have c3 : w4.cell? ⟨b, 3, none⟩ = some (.int .i64 ((many + 1 : Nat) : Int)) := blk_cell hb4 3
  have f2 : w4.frozen? ⟨b, 2, none⟩ = false := blk_frozen hb4 2
  have f3 : w4.frozen? ⟨b, 3, none⟩ = false := blk_frozen hb4 3
  have HB4 := Aside0.mk hb4
  clear hq hu4 U3 R3 hb4
  go_wp2_with fail
  go_ret2
  have hz4 := U4.out.size
  have hX := ((Upd.refl w4 (fun k => k = b)).setCell (p := ⟨b, 2, none⟩) (.inl rfl) (.int .i64 (at_ room first 1 : Nat))).setCell (p := ⟨b, 3, none⟩) (.inl rfl) (.int .i64 many)
  refine ⟨v, rfl, R_upd' (R_upd' HR.out U4.out (fun k hk _ h => by omega)) hX (fun k hk _ h => by omega), ((hR4.out.ctl hX (fun g1 cap1 h1 => blk_set (blk_set h1 2 _) 3 _)).mono (fun k hk => hk.1)), ((HU.out.mono (G := F) (fun _ h => h.elim)).trans U4.out (fun k hk => by rw [hk]; exact .inl HFg.out.1)).trans hX (fun k hk => by rw [hk]; exact .inl HFb.out.1)⟩

theorem put_long (w : World) (F : Nat → Prop) (b room words first many : Nat) (sl : Nat → List Int) (A : Option Addr) (c : Nat) (n : Nat) (h : RG w F b room words first many sl) (h1 : words < n) :
    Calls Try.prog 11 #[.pointer (some ⟨b, 0, none⟩), .slice A n c] w fun e w' => e = .returned (.int .i64 2) ∧ w = w' := by
  obtain ⟨_, g, cap, cur, hb, _⟩ := h
  have c1 : w.cell? ⟨b, 1, none⟩ = some (.int .i64 words) := blk_cell hb 1
  clear hb
  have e1 : decide ((n : Int) > (words : Int)) = true := by rw [decide_eq_true_eq]; omega
  have e2 : (words : Int) < (n : Int) := by omega
  go_enter Try.func11, Try.ntmps11
  go_wp2
  go_ret
  exact ⟨rfl, rfl⟩

theorem put_full (w : World) (F : Nat → Prop) (b room words first : Nat) (sl : Nat → List Int) (A : Option Addr) (c : Nat) (n : Nat) (h : RG w F b room words first room sl) (h1 : n ≤ words) :
    Calls Try.prog 11 #[.pointer (some ⟨b, 0, none⟩), .slice A n c] w fun e w' => e = .returned (.int .i64 8) ∧ ∃ q, w' = w.drewN q := by
  obtain ⟨_, g, cap, cur, hb, _⟩ := h
  have c0 : w.cell? ⟨b, 0, none⟩ = some (.slice (some ⟨g, 0, none⟩) room cap) := blk_cell hb 0
  have c1 : w.cell? ⟨b, 1, none⟩ = some (.int .i64 words) := blk_cell hb 1
  have c3 : w.cell? ⟨b, 3, none⟩ = some (.int .i64 room) := blk_cell hb 3
  clear hb
  have e1 : decide ((n : Int) > (words : Int)) = false := by rw [decide_eq_false_iff_not]; omega
  have e2 : ¬ (words : Int) < (n : Int) := by omega
  go_enter Try.func11, Try.ntmps11
  go_wp2_with fail
  go_quiet (fail)
  go_wp2_with fail
  go_ret
  exact ⟨rfl, _, rfl⟩

set_option maxHeartbeats 1000000 in
theorem put_calls (w : World) (F : Nat → Prop) (b room words first many : Nat) (sl : Nat → List Int) (A : Option Addr) (c : Nat) (m : List Int) (h : RG w F b room words first many sl) (hA : nk.C w A m.length m) (h1 : m.length ≤ words) (h2 : many < room) (h3 : first < room) (h4 : room ≤ 100000) (h5 : words ≤ 100000) :
    Calls Try.prog 11 #[.pointer (some ⟨b, 0, none⟩), .slice A m.length c] w fun e w' => e = .returned (.int .i64 0) ∧ RG w' (fun k => F k ∨ w.heap.size ≤ k) b room words first (many + 1) (setSl sl (at_ room first many) m) ∧ Upd w w' F := by
  have H := Aside0.mk h
  have HA := Aside0.mk hA
  have hbl := h.lt
  obtain ⟨hFb, g, cap, cur, hb, hFg, hne, hcap, hgb, hm⟩ := h
  have c0 : w.cell? ⟨b, 0, none⟩ = some (.slice (some ⟨g, 0, none⟩) room cap) := blk_cell hb 0
  have c1 : w.cell? ⟨b, 1, none⟩ = some (.int .i64 words) := blk_cell hb 1
  have c3 : w.cell? ⟨b, 3, none⟩ = some (.int .i64 many) := blk_cell hb 3
  have hgl := blk_lt hgb
  have HB := Aside0.mk hb
  have HG := Aside0.mk hgb
  have HM := Aside0.mk hm
  have HFb := Aside0.mk hFb
  have HFg := Aside0.mk hFg
  have HCap := Aside0.mk hcap
  have hne' : ¬ g = b := hne
  have hne2 : ¬ b = g := fun h => hne h.symm
  clear hb hgb hm hA hFb hFg hne hcap
  have e1 : decide ((m.length : Int) > (words : Int)) = false := by rw [decide_eq_false_iff_not]; omega
  have e2 : ¬ (words : Int) < (m.length : Int) := by omega
  have e3 : ((many : Int) == (room : Int)) = false := by rw [beq_eq_false_iff_ne]; omega
  have e4 : ¬ (many : Int) = (room : Int) := by omega
  obtain ⟨p, hp⟩ : ∃ p, p = at_ room first many := ⟨_, rfl⟩
  have hpl : p < room := by rw [hp]; exact Nat.mod_lt _ (by omega)
  have HP := Aside0.mk hp
  obtain ⟨u0, hu0, _⟩ := HM.out p hpl
  have HU0 := Aside0.mk hu0
  clear hu0
  have b0 : (0 : Int) ≤ (p : Int) := by omega
  have b1 : (p : Int) < (room : Int) := by omega
  have hat : Aside0 (∀ X, Upd w X (fun _ => False) → Calls Try.prog 26 #[.pointer (some ⟨b, 0, none⟩), .int .i64 many] X fun e w' => e = .returned (.int .i64 p) ∧ Upd X w' (fun _ => False)) := ⟨by
    intro X hX
    rw [hp]
    exact (at_calls X F b room words first many many sl (H.out.upd0 hX) (by omega) (by omega) (by omega)).mono (fun e w' ⟨he, hq⟩ => ⟨he, Upd.of_q hq⟩)⟩
  have hcl : Aside0 (∀ X, Upd w X (fun _ => False) → Calls Try.prog 25 #[.slice A m.length c] X fun e w' => ∃ v, e = .returned v ∧ nk.R 37 w' 0 (fun k => w.heap.size ≤ k) v m ∧ Upd X w' (fun _ => False)) := ⟨by
    intro X hX
    refine (clone_calls A c m X (Kd.C_below HA.out (hX.to_below (Nat.le_refl _) (fun _ h => h.elim))) (by omega)).mono ?_
    rintro e w' ⟨v, rfl, hr, hu⟩
    exact ⟨v, rfl, Kd.R_mono hr (fun k hk => Nat.le_trans hX.size hk), hu⟩⟩
  clear hp
  go_enter Try.func11, Try.ntmps11
  go_wp2_with fail
  go_quiet (fail)
  go_wp2_with fail
  go_region_held3 (fun w' => w'.cell? ⟨b, 0, none⟩ = some (.slice (some ⟨g, 0, none⟩) room cap) ∧ w'.cell? ⟨b, 3, none⟩ = some (.int .i64 many)) (first | exact ⟨cell_afar1 k2 hne2, cell_afar1 k3 hne2⟩ | exact ⟨k2, k3⟩ | exact ⟨k0, k1⟩ | go_keep)
    (first
      | (go_at_call 26; have hx := HUC.out; refine (hat.out _ hx).mono ?_; rintro e w5 ⟨rfl, hu⟩; have HUL := Aside0.mk (hx.step hu); have HRL := Aside0.mk (R_upd0 HRC.out hu); have k2 := cell_upd0 HUL.out c0; have k3 := cell_upd0 HUL.out c3; have hgl5 := (HUL.out.block hgl (fun h => h)).trans HG.out; have k5 := blk_frozen hgl5 p; have k6 : w5.cell? ⟨g, p, none⟩ = some u0 := (blk_cell hgl5 p).trans HU0.out; clear hx hu hgl5)
      | (go_at_call 26; refine (hat.out _ ?_).mono ?_; exact ((Upd.refl w (fun _ => False)).drewN _).drew; rintro e w4 ⟨rfl, hu⟩; have HUA := Aside0.mk ((((Upd.refl w (fun _ => False)).drewN _).drew).step hu); have k0 := cell_upd0 HUA.out c0; have k1 := cell_upd0 HUA.out c3; clear hu)
      | (go_at_call 25; have hx := HUA.out; refine (hcl.out _ hx).mono ?_; rintro e w5 ⟨v, rfl, hr, hu⟩; have HUL := Aside0.mk (hx.step hu); have HRL := Aside0.mk hr; have k2 := cell_upd0 HUL.out c0; have k3 := cell_upd0 HUL.out c3; have hgl5 := (HUL.out.block hgl (fun h => h)).trans HG.out; have k5 := blk_frozen hgl5 p; have k6 : w5.cell? ⟨g, p, none⟩ = some u0 := (blk_cell hgl5 p).trans HU0.out; obtain ⟨A5, c5, rfl⟩ := Kd.R_slice hr; clear hx hu hr hgl5)
      | (go_at_call 25; refine (hcl.out _ ?_).mono ?_; exact ((Upd.refl w (fun _ => False)).drewN _).drew; rintro e w4 ⟨v, rfl, hr, hu⟩; have HUC := Aside0.mk ((((Upd.refl w (fun _ => False)).drewN _).drew).step hu); have HRC := Aside0.mk hr; have k0 := cell_upd0 HUC.out c0; have k1 := cell_upd0 HUC.out c3; obtain ⟨A5, c5, rfl⟩ := Kd.R_slice hr; clear hu hr))
  all_goals
    have hz5 := HUL.out.size
    have hM5 : Msg w5 (fun k => ((F k ∨ w.heap.size ≤ k) ∧ k ≠ b) ∧ k ≠ g) (.slice A5 m.length c5) m := Kd.V_mono (Kd.R_V HRL.out) (fun k hk => ⟨⟨.inr hk, by omega⟩, by omega⟩)
    have R6 := Aside0.mk (RG.put ((H.out.upd0 HUL.out).mono (fun k hk => Or.inl hk)) k2 hpl hM5)
    have U6 := Aside0.mk ((HUL.out.mono (G := F) (fun _ h => h.elim)).setCell (p := ⟨g, p, none⟩) (.inl HFg.out) (.slice A5 m.length c5))
    have k7 : (w5.setCell ⟨g, p, none⟩ (.slice A5 m.length c5)).cell? ⟨b, 3, none⟩ = some (.int .i64 many) := cell_afar1 k3 hne2
    have k8 : (w5.setCell ⟨g, p, none⟩ (.slice A5 m.length c5)).frozen? ⟨b, 3, none⟩ = false := blk_frozen (blk_far ((HUL.out.block hbl (fun h => h)).trans HB.out) hne2 _) 3
    clear hM5 k2 k3 k5 k6
    go_wp2_with fail
    go_ret
    refine ⟨rfl, ?_, U6.out.setCell (p := ⟨b, 3, none⟩) (.inl HFb.out) _⟩
    rw [← HP.out]
    exact R6.out.ctl ((Upd.refl _ (fun k => k = b)).setCell (p := ⟨b, 3, none⟩) (.inl rfl) _) (fun g1 cap1 h1 => blk_set h1 3 _)
end Go.Proofs.Ytnnoeomjamlhbaa.Ring
