import Derived.Test.YtnnoeomjamlhbaaRingSt
import Derived.Test.YtnnoeomjamlhbaaPRingActsx1
import Derived.Deep.RegionWith
import Derived.Deep.RegionHeld3
import Derived.Deep.DrawnRows
set_option linter.unusedVariables false
set_option linter.unusedSimpArgs false
namespace Go.Proofs.Ytnnoeomjamlhbaa.RingDo
attribute [local go_sem ↓] Go.wp_at_zero Go.wp_at_succ
open Go.RowKit Go.Proofs.YtnnoeomjamlhbaaW.PrintWords Go.Proofs.Ytnnoeomjamlhbaa.Own Go.Proofs.Ytnnoeomjamlhbaa.SlU Go.Proofs.Ytnnoeomjamlhbaa.Ring Go.Proofs.Ytnnoeomjamlhbaa.RingQ Go.Proofs.Ytnnoeomjamlhbaa.RingTold Go.Proofs.Ytnnoeomjamlhbaa.RingAll Go.Proofs.Ytnnoeomjamlhbaa.RingClr Go.Proofs.Ytnnoeomjamlhbaa.RingSt

theorem cell_afar3 {W : World} {a : Addr} {p j j' j'' : Nat} {v x y z : Value} (h : W.cell? a = some v) (hne : ¬ a.block = p) : (((W.setCell ⟨p, j, none⟩ x).setCell ⟨p, j', none⟩ y).setCell ⟨p, j'', none⟩ z).cell? a = some v :=
  cell_afar1 (cell_afar1 (cell_afar1 h hne) hne) hne
/-- A list of messages, as the document keeps it. -/
abbrev VL (w : World) (G : Nat → Prop) (v : Value) (q : List (List Int)) : Prop := Kd.V mk 28 w 0 G v q
/-- The Ring, and the document's beside it. -/
def Two (w : World) (F G : Nat → Prop) (b room words : Nat) (v : Value) (q : List (List Int)) : Prop :=
  RQ w F b room words q ∧ VL w G v q ∧ ∀ k, F k → ¬ G k
/-- What is done, of four. -/
def stepQ (k : Nat) (m : List Int) (words room : Nat) (q : List (List Int)) : List (List Int) :=
  if k = 0 then (putS words room q m).1 else if k = 1 then (takeS q).1 else if k = 2 then q else []
/-- What do leaves. -/
def Done (w : World) (F G : Nat → Prop) (b room words : Nat) (q' : List (List Int)) (e : Ending) (w' : World) : Prop :=
  ∃ v' F' G', e = .returned (.tuple #[.agg #[.int .i64 room, .int .i64 words, v'], .bool true]) ∧ Two w' F' G' b room words v' q' ∧ (∀ k, F' k → F k ∨ w.heap.size ≤ k) ∧ (∀ k, G' k → G k ∨ w.heap.size ≤ k) ∧ Upd w w' F

theorem refput (w : World) (G : Nat → Prop) (room words : Nat) (v : Value) (q : List (List Int)) (A : Option Addr) (c : Nat) (m : List Int) (h : VL w G v q) (hA : nk.C w A m.length m) (hc : m.length ≤ c) (hql : q.length ≤ 100000) (hml : m.length ≤ 100000) :
    Calls Try.prog 27 #[.agg #[.int .i64 room, .int .i64 words, v], .slice A m.length c] w fun e w' => ∃ v', e = .returned (.tuple #[.agg #[.int .i64 room, .int .i64 words, v'], .int .i64 (putS words room q m).2]) ∧ VL w' (fun k => G k ∨ w.heap.size ≤ k) v' (putS words room q m).1 ∧ Upd w w' (fun _ => False) := by
  obtain ⟨Av, cv, rfl⟩ := Kd.V_slice h
  have hcopy : PRingActs.monocoqueref03_Copy.f m = some m := by
    unfold PRingActs.monocoqueref03_Copy.f
    simp only [Option.bind_some, List.length_nil, List.nil_append]
    rw [if_pos (by omega)]
  have hf : PRingActs.monocoqueref03_Put.f room words q m = some ((room : Int), (words : Int), (putS words room q m).1, (putS words room q m).2) := by
    unfold PRingActs.monocoqueref03_Put.f putS
    by_cases h1 : words < m.length
    · rw [if_pos (by omega), if_pos h1]
    · rw [if_neg (by omega), if_neg h1]
      by_cases h2 : room ≤ q.length
      · rw [if_pos (by omega), if_pos h2]
      · rw [if_neg (by omega), if_neg h2]
        simp only [Option.bind_some, List.length_nil, List.nil_append, hcopy]
        rw [if_pos (by omega), if_pos (by omega)]
  refine (PRingActs.monocoqueref03_Put.calls _ _ G Av cv q A c m _ _ _ _ w h hA hc hf).mono ?_
  rintro e w' ⟨v2, rfl, hv, hb⟩
  exact ⟨v2, rfl, hv, Upd.of_below hb _⟩
theorem reftake (w : World) (G : Nat → Prop) (room words : Nat) (v : Value) (q : List (List Int)) (h : VL w G v q) (hml : ∀ m ∈ q, m.length ≤ 100000) :
    Calls Try.prog 29 #[.agg #[.int .i64 room, .int .i64 words, v]] w fun e w' => ∃ v' u, e = .returned (.tuple #[.agg #[.int .i64 room, .int .i64 words, v'], u, .bool (takeS q).2.2]) ∧ VL w' (fun k => G k ∨ w.heap.size ≤ k) v' (takeS q).1 ∧ nk.R 37 w' 0 (fun k => w.heap.size ≤ k) u (takeS q).2.1 ∧ Upd w w' (fun _ => False) := by
  obtain ⟨Av, cv, rfl⟩ := Kd.V_slice h
  have hf : PRingActs.monocoqueref03_Take.f room words q = some ((room : Int), (words : Int), (takeS q).1, (takeS q).2.1, (takeS q).2.2) := by
    unfold PRingActs.monocoqueref03_Take.f
    cases q with
    | nil => rw [if_pos (by simp)]; rfl
    | cons m q =>
      have := hml m (by simp)
      have hcopy : PRingActs.monocoqueref03_Copy.f m = some m := by
        unfold PRingActs.monocoqueref03_Copy.f
        simp only [Option.bind_some, List.length_nil, List.nil_append]
        rw [if_pos (by omega)]
      rw [if_neg (by simp; omega), if_pos (by simp)]
      have : PRingActs.rd_L1 (m :: q) 0 = m := rfl
      rw [this, hcopy]
      simp only [Option.bind_some]
      rw [if_pos (by simp; omega)]
      rfl
  refine (PRingActs.monocoqueref03_Take.calls _ _ G Av cv q _ _ _ _ _ w h hf).mono ?_
  rintro e w' ⟨v2, v3, rfl, hv, hr, hb⟩
  exact ⟨v2, v3, rfl, Kd.V_mono hv (fun k hk => hk.1), Kd.R_lower hr (Nat.zero_le _), Upd.of_below hb _⟩

/-- Behind 'next, e := ref.Put(..)' or the like: the new one in the variable at block p. -/
def Nx (w W1 wc : World) (G : Nat → Prop) (room words : Nat) (q' : List (List Int)) (p : Nat) : Prop :=
  Upd W1 wc (fun _ => False) ∧ W1.heap.size ≤ p ∧ ∃ v2, wc.heap[p]? = some (.cells #[.int .i64 room, .int .i64 words, v2] 43 (0, 0)) ∧ VL wc (fun k => (G k ∧ k < w.heap.size) ∨ (W1.heap.size ≤ k ∧ k < wc.heap.size ∧ k ≠ p)) v2 q'

theorem fin {w wc X w4 W' : World} {F G : Nat → Prop} {b room words t6 : Nat} {q' : List (List Int)} {v2 : Value} (HD : ∀ k, F k → ¬ G k) (hwc : Upd w wc (fun _ => False)) (h6 : w.heap.size ≤ t6) (h6' : t6 < wc.heap.size) (hX : Upd wc X (fun k => k = t6)) (hq : RQ w4 (fun k => (F k ∧ k < w.heap.size) ∨ wc.heap.size ≤ k) b room words q')
    (h4 : Upd X w4 (fun k => F k ∧ k < w.heap.size)) (hW : Upd w4 W' (fun k => k = t6)) (hv : VL wc (fun k => (G k ∧ k < w.heap.size) ∨ (w.heap.size ≤ k ∧ k < wc.heap.size ∧ k ≠ t6)) v2 q') :
    Done w F G b room words q' (.returned (.tuple #[.agg #[.int .i64 room, .int .i64 words, v2], .bool true])) W' := by
  have hzX := hX.size
  have hz4 := h4.size
  have hzW := hW.size
  refine ⟨_, fun k => (F k ∧ k < w.heap.size) ∨ wc.heap.size ≤ k, fun k => (G k ∧ k < w.heap.size) ∨ (w.heap.size ≤ k ∧ k < wc.heap.size ∧ k ≠ t6), rfl, ⟨hq.upd' hW (fun k hk _ h => by omega), ?_, ?_⟩, ?_, ?_, ?_⟩
  · refine Kd.V_kept (Kd.V_kept (Kd.V_kept hv hX.kept (fun k hk h => by omega)) h4.kept (fun k hk h => ?_)) hW.kept (fun k hk h => by omega)
    rcases hk with hk | hk
    · exact HD k h.1 hk.1
    · omega
  · intro k hk hg
    have := hwc.size
    rcases hk with hk | hk <;> rcases hg with hg | hg
    · exact HD k hk.1 hg.1
    · omega
    · omega
    · omega
  · exact fun k hk => hk.elim (fun h => .inl h.1) (fun h => .inr (Nat.le_trans hwc.size h))
  · exact fun k hk => hk.elim (fun h => .inl h.1) (fun h => .inr h.1)
  · exact (((hwc.mono (G := F) (fun _ h => h.elim)).trans hX (fun k hk => .inr (by omega))).trans h4 (fun k hk => .inl hk.1)).trans hW (fun k hk => .inr (by omega))

theorem Nx.after {w W1 X w4 : World} {G : Nat → Prop} {room words : Nat} {q' : List (List Int)} {A2 : Option Addr} {c2 : Nat} (hs : W1.heap.size = w.heap.size + 1 + 1 + 1) (hX : Upd W1 X (fun _ => False)) (hu : Upd X w4 (fun _ => False)) (hv : VL w4 (fun k => (G k ∧ k < w.heap.size) ∨ X.heap.size ≤ k) (.slice A2 q'.length c2) q') :
    Nx w W1 (w4.alloc (.cells #[.int .i64 room, .int .i64 words, .slice A2 q'.length c2] 43)) G room words q' w4.heap.size := by
  have hz := hX.size
  refine ⟨(hX.step hu).alloc _, (hX.step hu).size, _, heap_alloc_new _ _, Kd.V_alloc (Kd.V_mono (Kd.V_bound hv) (fun k hk => ?_)) _⟩
  have h2 := hk.2
  rcases hk.1 with h1 | h1
  · exact .inl h1
  · exact .inr ⟨by omega, by simp; omega, by omega⟩
theorem Nx.before {w W1 X w4 : World} {G : Nat → Prop} {room words : Nat} {q' : List (List Int)} {A2 : Option Addr} {c2 : Nat} (hs : W1.heap.size = w.heap.size + 1 + 1 + 1) (cs : Array Value) (hX : Upd W1 X (fun _ => False)) (hz : W1.heap.size < X.heap.size) (hu : Upd X w4 (fun _ => False)) (hv : VL w4 (fun k => (G k ∧ k < w.heap.size) ∨ X.heap.size ≤ k) (.slice A2 q'.length c2) q')
    (hq : w4.heap[W1.heap.size]? = some (.cells #[.int .i64 0, .int .i64 0, .slice none 0 0] 43 (0, 0))) :
    Nx w W1 (((w4.setCell ⟨W1.heap.size, 0, none⟩ (.int .i64 room)).setCell ⟨W1.heap.size, 1, none⟩ (.int .i64 words)).setCell ⟨W1.heap.size, 2, none⟩ (.slice A2 q'.length c2)) G room words q' W1.heap.size := by
  have hw := (((Upd.refl w4 (fun k => k = W1.heap.size)).setCell (p := ⟨W1.heap.size, 0, none⟩) (.inl rfl) (.int .i64 room)).setCell (p := ⟨W1.heap.size, 1, none⟩) (.inl rfl) (.int .i64 words)).setCell (p := ⟨W1.heap.size, 2, none⟩) (.inl rfl) (.slice A2 q'.length c2)
  have hz2 := hw.size
  refine ⟨(hX.step hu).trans hw (fun k hk => .inr (by omega)), Nat.le_refl _, _, blk_set (blk_set (blk_set hq 0 _) 1 _) 2 _, Kd.V_kept (Kd.V_mono (Kd.V_bound hv) (fun k hk => ?_)) hw.kept (fun k hk h => ?_)⟩
  · have h2 := hk.2
    rcases hk.1 with h1 | h1
    · exact .inl h1
    · exact .inr ⟨by omega, by omega, by omega⟩
  · rcases hk with h1 | h1
    · omega
    · exact h1.2.2 h

set_option maxRecDepth 20000 in
set_option maxHeartbeats 4000000 in
theorem do0 (w : World) (F G : Nat → Prop) (b room words : Nat) (v : Value) (q : List (List Int)) (kind : Int) (A : Option Addr) (c : Nat) (m : List Int) (h : Two w F G b room words v q) (hA : nk.C w A m.length m) (hc : m.length ≤ c) (hql : q.length ≤ 100000) (hke : wrap64 ((IntKind.u64.wrap kind).tmod 4) = 0) :
    Calls Try.prog 18 #[.pointer (some ⟨b, 0, none⟩), .agg #[.int .i64 room, .int .i64 words, v], .agg #[.int .i64 kind, .slice A m.length c]] w (Done w F G b room words (stepQ 0 (m.take 40) words room q)) := by
  obtain ⟨ha, hr, hd⟩ := h
  obtain ⟨Av, cv, rfl⟩ := Kd.V_slice hr
  have HA := Aside0.mk ha
  have HR := Aside0.mk hr
  have HD := Aside0.mk hd
  have HM := Aside0.mk hA
  have hbl := ha.lt
  clear ha hr hd hA
  obtain ⟨W1, hW1⟩ : ∃ W1, W1 = (((w.alloc (.cells #[.int .i64 room, .int .i64 words, .slice Av q.length cv] 43)).alloc (.cells #[.int .i64 kind, .slice A m.length c] 49)).alloc (.cells #[.int .i64 0, .int .i64 0, .slice none 0 0] 43)) := ⟨_, rfl⟩
  have hs1 : W1.heap.size = w.heap.size + 1 + 1 + 1 := by rw [hW1]; simp
  have HU1 : Aside0 (Upd w W1 (fun _ => False)) := ⟨by rw [hW1]; exact (((Upd.refl _ _).alloc _).alloc _).alloc _⟩
  have hb0 : W1.heap[w.heap.size]? = some (.cells #[.int .i64 room, .int .i64 words, .slice Av q.length cv] 43 (0, 0)) := by rw [hW1]; exact blk_alloc (blk_alloc (heap_alloc_new w _) _) _
  have hb1 : W1.heap[w.heap.size + 1]? = some (.cells #[.int .i64 kind, .slice A m.length c] 49 (0, 0)) := by rw [hW1]; exact blk_alloc (by simpa using heap_alloc_new (w.alloc (.cells #[.int .i64 room, .int .i64 words, .slice Av q.length cv] 43)) (.cells #[.int .i64 kind, .slice A m.length c] 49)) _
  have hb2 : W1.heap[w.heap.size + 1 + 1]? = some (.cells #[.int .i64 0, .int .i64 0, .slice none 0 0] 43 (0, 0)) := by rw [hW1]; simpa using heap_alloc_new ((w.alloc (.cells #[.int .i64 room, .int .i64 words, .slice Av q.length cv] 43)).alloc (.cells #[.int .i64 kind, .slice A m.length c] 49)) (.cells #[.int .i64 0, .int .i64 0, .slice none 0 0] 43)
  have HB0 := Aside0.mk hb0
  have HB1 := Aside0.mk hb1
  have HB2 := Aside0.mk hb2
  have HS1 := Aside0.mk hs1
  have hl0 : w.heap.size < W1.heap.size := by omega
  have hl1 : w.heap.size + 1 < W1.heap.size := by omega
  have hl2 : w.heap.size + 1 + 1 < W1.heap.size := by omega
  have c00 : W1.cell? ⟨w.heap.size, 0, none⟩ = some (.int .i64 room) := blk_cell hb0 0
  have c01 : W1.cell? ⟨w.heap.size, 1, none⟩ = some (.int .i64 words) := blk_cell hb0 1
  have c02 : W1.cell? ⟨w.heap.size, 2, none⟩ = some (.slice Av q.length cv) := blk_cell hb0 2
  have c10 : W1.cell? ⟨w.heap.size + 1, 0, none⟩ = some (.int .i64 kind) := blk_cell hb1 0
  have c11 : W1.cell? ⟨w.heap.size + 1, 1, none⟩ = some (.slice A m.length c) := blk_cell hb1 1
  clear hs1 hb0 hb1 hb2
  have hu34 := Try.underlying43
  have hu38 := Try.underlying49
  obtain ⟨n, hn⟩ : ∃ n, n = m.take 40 := ⟨_, rfl⟩
  rw [← hn]
  have hnl : n.length ≤ 40 := by rw [hn, List.length_take]; omega
  have hnc : n.length ≤ c := by rw [hn, List.length_take]; omega
  have HN : Aside0 (nk.C w A n.length n) := ⟨by rw [hn]; exact C_take HM.out 40⟩
  have hfew : Aside0 (∀ X, Calls Try.prog 28 #[.slice A m.length c] X fun e w' => e = .returned (.slice A n.length c) ∧ X = w') := ⟨fun X => by rw [hn]; exact few_calls A c m X hc⟩
  obtain ⟨q', e0, hst⟩ : ∃ q' e0, putS words room q n = (q', e0) := ⟨_, _, rfl⟩
  have HST := Aside0.mk hst
  have hgoal : stepQ 0 n words room q = q' := by unfold stepQ; rw [if_pos rfl, hst]
  rw [hgoal]
  clear hgoal hn hst
  have refR : Aside0 (∀ X, Upd W1 X (fun _ => False) → Calls Try.prog 27 #[.agg #[.int .i64 room, .int .i64 words, .slice Av q.length cv], .slice A n.length c] X fun e w4 => ∃ v2, e = .returned (.tuple #[.agg #[.int .i64 room, .int .i64 words, v2], .int .i64 e0]) ∧ VL w4 (fun k => (G k ∧ k < w.heap.size) ∨ X.heap.size ≤ k) v2 q' ∧ Upd X w4 (fun _ => False)) := ⟨by
    intro X hX
    have h0 := HU1.out.step hX
    have h1 := refput X (fun k => G k ∧ k < w.heap.size) room words _ q A c n (Kd.V_kept (Kd.V_bound HR.out) h0.kept (fun _ _ h => h)) (Kd.F_now (Kd.F_kept (Kd.C_F (Kd.heap_int _) HN.out) h0.kept (fun _ _ h => h))) hnc hql (by omega)
    rw [HST.out] at h1
    exact h1⟩
  go_enter Try.func18, Try.ntmps18
  go_wp2_with fail
  rw [← hW1]
  clear hW1
  go_cut [8, 9] (fun s8 s9 wc => ∃ p, s8 = .pointer (some ⟨p, 0, none⟩) ∧ s9 = .int .i64 e0 ∧ Nx w W1 wc G room words q' p)
  case first =>
    have m0 : ¬ w.heap.size = W1.heap.size := by omega
    have m1 : ¬ w.heap.size + 1 = W1.heap.size := by omega
    go_region_held3 (fun w' => w'.cell? ⟨w.heap.size, 0, none⟩ = some (.int .i64 room) ∧ w'.cell? ⟨w.heap.size, 1, none⟩ = some (.int .i64 words) ∧ w'.cell? ⟨w.heap.size, 2, none⟩ = some (.slice Av q.length cv) ∧ w'.cell? ⟨w.heap.size + 1, 1, none⟩ = some (.slice A m.length c)) (first | go_keep | exact ⟨k0, k1, k2, k3⟩ | exact ⟨cell_afar3 k0 m0, cell_afar3 k1 m0, cell_afar3 k2 m0, cell_afar3 k3 m1⟩)
      (first
        | (go_at_call 28; refine (hfew.out _).mono ?_; rintro e w' ⟨rfl, rfl⟩)
        | (go_at_call 27; refine (refR.out _ ?_).mono ?_; (exact (Upd.refl _ _).drew); rintro e w4 ⟨v2, rfl, hv, hu⟩; obtain ⟨A2, c2, rfl⟩ := Kd.V_slice hv; have HV4 := Aside0.mk hv; have HU4 := Aside0.mk hu; have k0 := cell_upd0 hu c00; have k1 := cell_upd0 hu c01; have k2 := cell_upd0 hu c02; have k3 := cell_upd0 hu c11; clear hv hu)
        | (go_at_call 27; refine (refR.out _ ?_).mono ?_; (exact ((Upd.refl _ _).alloc _).drew); rintro e w4 ⟨v2, rfl, hv, hu⟩; obtain ⟨A2, c2, rfl⟩ := Kd.V_slice hv; have HV4 := Aside0.mk hv; have HU4 := Aside0.mk hu; have hq : w4.heap[W1.heap.size]? = some (.cells #[.int .i64 0, .int .i64 0, .slice none 0 0] 43 (0, 0)) := (hu.block (by simp) (fun h => h)).trans (heap_alloc_new W1 _); have q0 := (blk_cell hq 0).trans rfl; have q1 := (blk_cell hq 1).trans rfl; have q2 := (blk_cell hq 2).trans rfl; have q3 := blk_frozen hq 0; have q4 := blk_frozen hq 1; have q5 := blk_frozen hq 2; have HQ := Aside0.mk hq; clear hq; have k0 := cell_upd0 ((((Upd.refl W1 (fun _ => False)).alloc _).drew).step hu) c00; have k1 := cell_upd0 ((((Upd.refl W1 (fun _ => False)).alloc _).drew).step hu) c01; have k2 := cell_upd0 ((((Upd.refl W1 (fun _ => False)).alloc _).drew).step hu) c02; have k3 := cell_upd0 ((((Upd.refl W1 (fun _ => False)).alloc _).drew).step hu) c11; clear hv hu))
    all_goals
      go_wp2_with fail
      go_meet
      first
        | exact ⟨_, rfl, rfl, Nx.after HS1.out (((Upd.refl W1 _).drew)) HU4.out HV4.out⟩
        | exact ⟨_, rfl, rfl, Nx.before HS1.out #[] (((Upd.refl W1 (fun _ => False)).alloc _).drew) (by simp) HU4.out HV4.out HQ.out⟩
  case rest =>
    obtain ⟨p, rfl, rfl, hu, hp, v2, hb, hv⟩ := hcut
    obtain ⟨A2, c2, rfl⟩ := Kd.V_slice hv
    have hs1 := HS1.out
    have hzc := hu.size
    have d0 := (blk_cell hb 0).trans rfl
    have d1 := (blk_cell hb 1).trans rfl
    have d2 := (blk_cell hb 2).trans rfl
    have d3 := cell_upd0 hu c11
    have hb2 := (hu.block hl2 (fun h => h)).trans HB2.out
    have f0 := blk_frozen hb2 0
    have f1 := blk_frozen hb2 1
    have f2 := blk_frozen hb2 2
    have e0' := (blk_cell hb2 0).trans rfl
    have e1' := (blk_cell hb2 1).trans rfl
    have e2' := (blk_cell hb2 2).trans rfl
    have HBc := Aside0.mk hb2
    have HBp := Aside0.mk hb
    have hpc := blk_lt hb
    have hnp : ¬ p = w.heap.size + 1 + 1 := by omega
    have hn1 : ¬ w.heap.size + 1 = w.heap.size + 1 + 1 := by omega
    have HV := Aside0.mk hv
    have HU := Aside0.mk hu
    have hwc : Upd w wc (fun _ => False) := HU1.out.step hu
    have HWC := Aside0.mk hwc
    have FIN : Aside0 (∀ X w4 W', Upd wc X (fun k => k = w.heap.size + 1 + 1) → RQ w4 (fun k => (F k ∧ k < w.heap.size) ∨ X.heap.size ≤ k) b room words q' → Upd X w4 (fun k => F k ∧ k < w.heap.size) → Upd w4 W' (fun k => k = w.heap.size + 1 + 1) → Done w F G b room words q' (.returned (.tuple #[.agg #[.int .i64 room, .int .i64 words, .slice A2 q'.length c2], .bool true])) W') := ⟨fun X w4 W' hX hq h4 hW =>
      fin HD.out HWC.out (by omega) (by omega) hX (hq.mono (fun k hk => hk.imp id (fun h => Nat.le_trans hX.size h))) h4 hW (Kd.V_mono HV.out (fun k hk => hk.imp id (fun h => ⟨by omega, h.2.1, by omega⟩)))⟩
    have nF : ∀ k, w.heap.size ≤ k → ¬ (F k ∧ k < w.heap.size) := fun k hk h => by omega
    have NF := Aside0.mk nF
    clear hb2 hb hv hu hwc nF
    have putR : Aside0 (∀ X, Upd wc X (fun k => k = w.heap.size + 1 + 1) → Calls Try.prog 11 #[.pointer (some ⟨b, 0, none⟩), .slice A n.length c] X fun e w4 => e = .returned (.int .i64 e0) ∧ RQ w4 (fun k => (F k ∧ k < w.heap.size) ∨ X.heap.size ≤ k) b room words q' ∧ Upd X w4 (fun k => F k ∧ k < w.heap.size)) := ⟨by
      intro X hX
      have h0 : Upd w X (fun _ => False) := HWC.out.trans hX (fun k hk => .inr (by omega))
      have h1 := put_any X _ b room words q A c n (HA.out.bound.upd0 h0) (Kd.F_now (Kd.F_kept (Kd.C_F (Kd.heap_int _) HN.out) h0.kept (fun _ _ h => h)))
      rw [HST.out] at h1
      exact h1⟩
    have he : (e0 == e0) = true := by simp
    go_wp2_with fail
    go_region_held3 (fun w' => w'.cell? ⟨p, 0, none⟩ = some (.int .i64 room) ∧ w'.cell? ⟨p, 1, none⟩ = some (.int .i64 words) ∧ w'.cell? ⟨p, 2, none⟩ = some (.slice A2 q'.length c2) ∧ w'.cell? ⟨w.heap.size + 1, 1, none⟩ = some (.slice A m.length c)) ((refine ⟨?_, ?_, ?_, ?_⟩ <;> first | go_keep | exact cell_afar3 d0 hnp | exact cell_afar3 d1 hnp | exact cell_afar3 d2 hnp | exact cell_afar3 d3 hn1 | exact cell_afar3 k0 hnp | exact cell_afar3 k1 hnp | exact cell_afar3 k2 hnp | exact cell_afar3 k3 hn1))
      (first
        | (go_at_call 28; refine (hfew.out _).mono ?_; rintro e w' ⟨rfl, rfl⟩)
        | (go_at_call 11; refine (putR.out _ ?_).mono ?_; (exact (Upd.refl _ _).drew); rintro e w4 ⟨rfl, hq, hu⟩; have k0 := cell_kept (a := ⟨p, 0, none⟩) d0 hu.kept (NF.out _ (by show _ ≤ p; omega)); have k1 := cell_kept (a := ⟨p, 1, none⟩) d1 hu.kept (NF.out _ (by show _ ≤ p; omega)); have k2 := cell_kept (a := ⟨p, 2, none⟩) d2 hu.kept (NF.out _ (by show _ ≤ p; omega)); have k3 := cell_kept d3 hu.kept (NF.out _ (by show _ ≤ w.heap.size + 1; omega)); have hbt := (hu.block (by show _ < wc.heap.size; omega) (NF.out _ (by omega))).trans HBc.out; have k4 := blk_frozen hbt 0; have k5 := blk_frozen hbt 1; have k6 := blk_frozen hbt 2; have k7 := (blk_cell hbt 0).trans rfl; have k8 := (blk_cell hbt 1).trans rfl; have k9 := (blk_cell hbt 2).trans rfl; have HBT := Aside0.mk hbt; have HQ := Aside0.mk hq; have HU4 := Aside0.mk hu; clear hbt hq hu))
    go_wp2_with fail
    refine bodyPost_ret (results_ct rfl _ _ (w.heap.size + 1 + 1) 43 #[.int .i64 room, .int .i64 words, .slice A2 q'.length c2] (0, 0) _ rfl (blk_set (blk_set (blk_set HBT.out 0 _) 1 _) 2 _) Try.underlying43 rfl (by kernel_rfl)) rfl ?_
    exact FIN.out _ _ _ ((Upd.refl wc (fun k => k = w.heap.size + 1 + 1)).drew) HQ.out HU4.out ((((Upd.refl _ (fun k => k = w.heap.size + 1 + 1)).setCell (.inl rfl) _).setCell (.inl rfl) _).setCell (.inl rfl) _)

set_option maxRecDepth 20000 in
set_option maxHeartbeats 4000000 in
theorem do1 (w : World) (F G : Nat → Prop) (b room words : Nat) (v : Value) (q : List (List Int)) (kind : Int) (A : Option Addr) (c : Nat) (m m0 : List Int) (h : Two w F G b room words v q) (hA : nk.C w A m.length m) (hc : m.length ≤ c) (hql : q.length ≤ 100000) (hke : wrap64 ((IntKind.u64.wrap kind).tmod 4) = 1) :
    Calls Try.prog 18 #[.pointer (some ⟨b, 0, none⟩), .agg #[.int .i64 room, .int .i64 words, v], .agg #[.int .i64 kind, .slice A m.length c]] w (Done w F G b room words (stepQ 1 m0 words room q)) := by
  obtain ⟨ha, hr, hd⟩ := h
  obtain ⟨Av, cv, rfl⟩ := Kd.V_slice hr
  have HA := Aside0.mk ha
  have HR := Aside0.mk hr
  have HD := Aside0.mk hd
  have HM := Aside0.mk hA
  have hbl := ha.lt
  clear ha hr hd hA
  obtain ⟨W1, hW1⟩ : ∃ W1, W1 = (((w.alloc (.cells #[.int .i64 room, .int .i64 words, .slice Av q.length cv] 43)).alloc (.cells #[.int .i64 kind, .slice A m.length c] 49)).alloc (.cells #[.int .i64 0, .int .i64 0, .slice none 0 0] 43)) := ⟨_, rfl⟩
  have hs1 : W1.heap.size = w.heap.size + 1 + 1 + 1 := by rw [hW1]; simp
  have HU1 : Aside0 (Upd w W1 (fun _ => False)) := ⟨by rw [hW1]; exact (((Upd.refl _ _).alloc _).alloc _).alloc _⟩
  have hb0 : W1.heap[w.heap.size]? = some (.cells #[.int .i64 room, .int .i64 words, .slice Av q.length cv] 43 (0, 0)) := by rw [hW1]; exact blk_alloc (blk_alloc (heap_alloc_new w _) _) _
  have hb1 : W1.heap[w.heap.size + 1]? = some (.cells #[.int .i64 kind, .slice A m.length c] 49 (0, 0)) := by rw [hW1]; exact blk_alloc (by simpa using heap_alloc_new (w.alloc (.cells #[.int .i64 room, .int .i64 words, .slice Av q.length cv] 43)) (.cells #[.int .i64 kind, .slice A m.length c] 49)) _
  have hb2 : W1.heap[w.heap.size + 1 + 1]? = some (.cells #[.int .i64 0, .int .i64 0, .slice none 0 0] 43 (0, 0)) := by rw [hW1]; simpa using heap_alloc_new ((w.alloc (.cells #[.int .i64 room, .int .i64 words, .slice Av q.length cv] 43)).alloc (.cells #[.int .i64 kind, .slice A m.length c] 49)) (.cells #[.int .i64 0, .int .i64 0, .slice none 0 0] 43)
  have HB0 := Aside0.mk hb0
  have HB1 := Aside0.mk hb1
  have HB2 := Aside0.mk hb2
  have HS1 := Aside0.mk hs1
  have hl0 : w.heap.size < W1.heap.size := by omega
  have hl1 : w.heap.size + 1 < W1.heap.size := by omega
  have hl2 : w.heap.size + 1 + 1 < W1.heap.size := by omega
  have c00 : W1.cell? ⟨w.heap.size, 0, none⟩ = some (.int .i64 room) := blk_cell hb0 0
  have c01 : W1.cell? ⟨w.heap.size, 1, none⟩ = some (.int .i64 words) := blk_cell hb0 1
  have c02 : W1.cell? ⟨w.heap.size, 2, none⟩ = some (.slice Av q.length cv) := blk_cell hb0 2
  have c10 : W1.cell? ⟨w.heap.size + 1, 0, none⟩ = some (.int .i64 kind) := blk_cell hb1 0
  have c11 : W1.cell? ⟨w.heap.size + 1, 1, none⟩ = some (.slice A m.length c) := blk_cell hb1 1
  clear hs1 hb0 hb1 hb2
  have hu34 := Try.underlying43
  have hu38 := Try.underlying49
  obtain ⟨q', x0, ok, hst⟩ : ∃ q' x0 ok, takeS q = (q', x0, ok) := ⟨_, _, _, rfl⟩
  have HST := Aside0.mk hst
  have hgoal : stepQ 1 m0 words room q = q' := by unfold stepQ; simp [hst]
  rw [hgoal]
  clear hgoal hst
  have hml : ∀ m ∈ q, m.length ≤ 100000 := by
    obtain ⟨_, _, _, _, _, _, h5, _, h6⟩ := HA.out
    exact fun m hm => Nat.le_trans (h6 m hm) h5
  have hxl : x0.length ≤ 100000 := by
    have h := HST.out
    cases q with
    | nil => injection h with h1 h2; injection h2 with h2 _; rw [← h2]; simp
    | cons y ys => injection h with h1 h2; injection h2 with h2 _; rw [← h2]; exact hml y (by simp)
  have HML := Aside0.mk hml
  clear hml
  have hok : (ok == ok) = true := by simp
  go_enter Try.func18, Try.ntmps18
  go_wp2_with fail
  rw [← hW1]
  clear hW1
  go_wp2_with fail
  have href := reftake W1 (fun k => G k ∧ k < w.heap.size) room words _ q (Kd.V_kept (Kd.V_bound HR.out) HU1.out.kept (fun _ _ h => h)) HML.out
  rw [HST.out] at href
  refine href.mono ?_
  rintro e w2 ⟨v2, u, rfl, hv2, hr2, hu2⟩
  obtain ⟨A3, c3, rfl⟩ := Kd.V_slice hv2
  obtain ⟨Au, cu, rfl⟩ := Kd.R_slice hr2
  clear href
  have HV2 := Aside0.mk hv2
  have HR2 := Aside0.mk (Kd.R_mono (Kd.R_bound hr2) (fun k hk => (⟨hk.1, hk.2.2.1⟩ : W1.heap.size ≤ k ∧ k < w2.heap.size)))
  have HU2 := Aside0.mk hu2
  clear hv2 hr2 hu2
  go_wp2_with fail
  have hN := Nx.after (q' := q') (A2 := A3) (c2 := c3) (G := G) (room := room) (words := words) HS1.out (Upd.refl W1 _) HU2.out HV2.out
  obtain ⟨wc, hwc⟩ : ∃ wc, wc = w2.alloc (.cells #[.int .i64 room, .int .i64 words, .slice A3 q'.length c3] 43) := ⟨_, rfl⟩
  have hu2c : Upd w2 wc (fun _ => False) := by rw [hwc]; exact (Upd.refl _ _).alloc _
  rw [← hwc] at hN ⊢
  clear hwc
  have HR3 := Aside0.mk (R_upd0 HR2.out hu2c)
  have hz23 := hu2c.size
  obtain ⟨p, hpp⟩ : ∃ p, p = w2.heap.size := ⟨_, rfl⟩
  rw [← hpp] at hN ⊢
  clear hpp
  obtain ⟨hu, hp, v2, hb, hv⟩ := hN
  clear HV2 HU2 HR2 hu2c
  obtain ⟨A2, c2, rfl⟩ := Kd.V_slice hv
  have hs1 := HS1.out
  have hzc := hu.size
  have d0 := (blk_cell hb 0).trans rfl
  have d1 := (blk_cell hb 1).trans rfl
  have d2 := (blk_cell hb 2).trans rfl
  have d3 := cell_upd0 hu c11
  have hb2 := (hu.block hl2 (fun h => h)).trans HB2.out
  have f0 := blk_frozen hb2 0
  have f1 := blk_frozen hb2 1
  have f2 := blk_frozen hb2 2
  have e0' := (blk_cell hb2 0).trans rfl
  have e1' := (blk_cell hb2 1).trans rfl
  have e2' := (blk_cell hb2 2).trans rfl
  have HBc := Aside0.mk hb2
  have HBp := Aside0.mk hb
  have hpc := blk_lt hb
  have hnp : ¬ p = w.heap.size + 1 + 1 := by omega
  have hn1 : ¬ w.heap.size + 1 = w.heap.size + 1 + 1 := by omega
  have HV := Aside0.mk hv
  have HU := Aside0.mk hu
  have hwc : Upd w wc (fun _ => False) := HU1.out.step hu
  have HWC := Aside0.mk hwc
  have FIN : Aside0 (∀ X w4 W', Upd wc X (fun k => k = w.heap.size + 1 + 1) → RQ w4 (fun k => (F k ∧ k < w.heap.size) ∨ X.heap.size ≤ k) b room words q' → Upd X w4 (fun k => F k ∧ k < w.heap.size) → Upd w4 W' (fun k => k = w.heap.size + 1 + 1) → Done w F G b room words q' (.returned (.tuple #[.agg #[.int .i64 room, .int .i64 words, .slice A2 q'.length c2], .bool true])) W') := ⟨fun X w4 W' hX hq h4 hW =>
    fin HD.out HWC.out (by omega) (by omega) hX (hq.mono (fun k hk => hk.imp id (fun h => Nat.le_trans hX.size h))) h4 hW (Kd.V_mono HV.out (fun k hk => hk.imp id (fun h => ⟨by omega, h.2.1, by omega⟩)))⟩
  have nF : ∀ k, w.heap.size ≤ k → ¬ (F k ∧ k < w.heap.size) := fun k hk h => by omega
  have NF := Aside0.mk nF
  clear hb2 hb hv hu hwc nF
  go_wp2_with fail
  have htk := take_any wc _ b room words q (HA.out.bound.upd0 HWC.out)
  rw [HST.out] at htk
  refine htk.mono ?_
  rintro e w4 ⟨v4, rfl, hr4, hq4, hu4⟩
  obtain ⟨A4, c4, rfl⟩ := Kd.R_slice hr4
  have k0 := cell_kept (a := ⟨p, 0, none⟩) d0 hu4.kept (NF.out _ (by show _ ≤ p; omega))
  have k1 := cell_kept (a := ⟨p, 1, none⟩) d1 hu4.kept (NF.out _ (by show _ ≤ p; omega))
  have k2 := cell_kept (a := ⟨p, 2, none⟩) d2 hu4.kept (NF.out _ (by show _ ≤ p; omega))
  have hbt := (hu4.block (by show _ < wc.heap.size; omega) (NF.out _ (by omega))).trans HBc.out
  have k4 := blk_frozen hbt 0
  have k5 := blk_frozen hbt 1
  have k6 := blk_frozen hbt 2
  have k7 := (blk_cell hbt 0).trans rfl
  have k8 := (blk_cell hbt 1).trans rfl
  have k9 := (blk_cell hbt 2).trans rfl
  have HBT := Aside0.mk hbt
  have HQ := Aside0.mk hq4
  have HU4 := Aside0.mk hu4
  have HR4 := Aside0.mk (Kd.R_reads' hr4).2.2
  have HR5 := Aside0.mk (Kd.R_reads' (R_upd' HR3.out hu4 (fun k hk _ h => by omega))).2.2
  clear htk hr4 hq4 hu4 hbt HR3 d0 d1 d2 f0 f1 f2 e0' e1' e2'
  go_wp2_with fail
  go_region_held3 (fun w' => w'.cell? ⟨p, 0, none⟩ = some (.int .i64 room) ∧ w'.cell? ⟨p, 1, none⟩ = some (.int .i64 words) ∧ w'.cell? ⟨p, 2, none⟩ = some (.slice A2 q'.length c2)) (first | exact ⟨k0, k1, k2⟩ | exact ⟨cell_afar3 k0 hnp, cell_afar3 k1 hnp, cell_afar3 k2 hnp⟩ | go_keep)
    (first
      | (go_at_call 13; refine (SameR.same_calls A4 c4 x0 Au cu x0 _ (Kd.C_drew HR4.out) (Kd.C_drew HR5.out)).mono ?_; rw [show eqB x0 x0 = true by simp [eqB]]; rintro e w6 ⟨rfl, q6, rfl⟩))
  go_wp2_with fail
  refine bodyPost_ret (results_ct rfl _ _ (w.heap.size + 1 + 1) 43 #[.int .i64 room, .int .i64 words, .slice A2 q'.length c2] (0, 0) _ rfl (blk_set (blk_set (blk_set HBT.out 0 _) 1 _) 2 _) Try.underlying43 rfl (by kernel_rfl)) rfl ?_
  exact FIN.out wc w4 _ (Upd.refl _ _) (HQ.out.mono (fun k hk => .inl hk)) HU4.out (((((Upd.refl w4 (fun k => k = w.heap.size + 1 + 1)).drewN _).setCell (.inl rfl) _).setCell (.inl rfl) _).setCell (.inl rfl) _)

set_option maxRecDepth 20000 in
set_option maxHeartbeats 4000000 in
theorem do2 (w : World) (F G : Nat → Prop) (b room words : Nat) (v : Value) (q : List (List Int)) (kind : Int) (A : Option Addr) (c : Nat) (m m0 : List Int) (h : Two w F G b room words v q) (hA : nk.C w A m.length m) (hc : m.length ≤ c) (hql : q.length ≤ 100000) (hke : wrap64 ((IntKind.u64.wrap kind).tmod 4) = 2) :
    Calls Try.prog 18 #[.pointer (some ⟨b, 0, none⟩), .agg #[.int .i64 room, .int .i64 words, v], .agg #[.int .i64 kind, .slice A m.length c]] w (Done w F G b room words (stepQ 2 m0 words room q)) := by
  obtain ⟨ha, hr, hd⟩ := h
  obtain ⟨Av, cv, rfl⟩ := Kd.V_slice hr
  have HA := Aside0.mk ha
  have HR := Aside0.mk hr
  have HD := Aside0.mk hd
  have HM := Aside0.mk hA
  have hbl := ha.lt
  clear ha hr hd hA
  obtain ⟨W1, hW1⟩ : ∃ W1, W1 = (((w.alloc (.cells #[.int .i64 room, .int .i64 words, .slice Av q.length cv] 43)).alloc (.cells #[.int .i64 kind, .slice A m.length c] 49)).alloc (.cells #[.int .i64 0, .int .i64 0, .slice none 0 0] 43)) := ⟨_, rfl⟩
  have hs1 : W1.heap.size = w.heap.size + 1 + 1 + 1 := by rw [hW1]; simp
  have HU1 : Aside0 (Upd w W1 (fun _ => False)) := ⟨by rw [hW1]; exact (((Upd.refl _ _).alloc _).alloc _).alloc _⟩
  have hb0 : W1.heap[w.heap.size]? = some (.cells #[.int .i64 room, .int .i64 words, .slice Av q.length cv] 43 (0, 0)) := by rw [hW1]; exact blk_alloc (blk_alloc (heap_alloc_new w _) _) _
  have hb1 : W1.heap[w.heap.size + 1]? = some (.cells #[.int .i64 kind, .slice A m.length c] 49 (0, 0)) := by rw [hW1]; exact blk_alloc (by simpa using heap_alloc_new (w.alloc (.cells #[.int .i64 room, .int .i64 words, .slice Av q.length cv] 43)) (.cells #[.int .i64 kind, .slice A m.length c] 49)) _
  have hb2 : W1.heap[w.heap.size + 1 + 1]? = some (.cells #[.int .i64 0, .int .i64 0, .slice none 0 0] 43 (0, 0)) := by rw [hW1]; simpa using heap_alloc_new ((w.alloc (.cells #[.int .i64 room, .int .i64 words, .slice Av q.length cv] 43)).alloc (.cells #[.int .i64 kind, .slice A m.length c] 49)) (.cells #[.int .i64 0, .int .i64 0, .slice none 0 0] 43)
  have HB0 := Aside0.mk hb0
  have HB1 := Aside0.mk hb1
  have HB2 := Aside0.mk hb2
  have HS1 := Aside0.mk hs1
  have hl0 : w.heap.size < W1.heap.size := by omega
  have hl1 : w.heap.size + 1 < W1.heap.size := by omega
  have hl2 : w.heap.size + 1 + 1 < W1.heap.size := by omega
  have c00 : W1.cell? ⟨w.heap.size, 0, none⟩ = some (.int .i64 room) := blk_cell hb0 0
  have c01 : W1.cell? ⟨w.heap.size, 1, none⟩ = some (.int .i64 words) := blk_cell hb0 1
  have c02 : W1.cell? ⟨w.heap.size, 2, none⟩ = some (.slice Av q.length cv) := blk_cell hb0 2
  have c10 : W1.cell? ⟨w.heap.size + 1, 0, none⟩ = some (.int .i64 kind) := blk_cell hb1 0
  have c11 : W1.cell? ⟨w.heap.size + 1, 1, none⟩ = some (.slice A m.length c) := blk_cell hb1 1
  clear hs1 hb0 hb1 hb2
  have hu34 := Try.underlying43
  have hu38 := Try.underlying49
  obtain ⟨q', x0, ok, hst⟩ : ∃ q' x0 ok, takeS q = (q', x0, ok) := ⟨_, _, _, rfl⟩
  have HST := Aside0.mk hst
  have hgoal : stepQ 2 m0 words room q = q := by unfold stepQ; simp [hst]
  rw [hgoal]
  clear hgoal hst
  have hml : ∀ m ∈ q, m.length ≤ 100000 := by
    obtain ⟨_, _, _, _, _, _, h5, _, h6⟩ := HA.out
    exact fun m hm => Nat.le_trans (h6 m hm) h5
  have hxl : x0.length ≤ 100000 := by
    have h := HST.out
    cases q with
    | nil => injection h with h1 h2; injection h2 with h2 _; rw [← h2]; simp
    | cons y ys => injection h with h1 h2; injection h2 with h2 _; rw [← h2]; exact hml y (by simp)
  have HML := Aside0.mk hml
  clear hml
  have hok : (ok == ok) = true := by simp
  go_enter Try.func18, Try.ntmps18
  go_wp2_with fail
  rw [← hW1]
  clear hW1
  go_wp2_with fail
  have href := reftake W1 (fun k => G k ∧ k < w.heap.size) room words _ q (Kd.V_kept (Kd.V_bound HR.out) HU1.out.kept (fun _ _ h => h)) HML.out
  rw [HST.out] at href
  refine href.mono ?_
  rintro e w2 ⟨v2, u, rfl, hv2, hr2, hu2⟩
  obtain ⟨A3, c3, rfl⟩ := Kd.V_slice hv2
  obtain ⟨Au, cu, rfl⟩ := Kd.R_slice hr2
  clear href
  have HV2 := Aside0.mk hv2
  have HR2 := Aside0.mk (Kd.R_mono (Kd.R_bound hr2) (fun k hk => (⟨hk.1, hk.2.2.1⟩ : W1.heap.size ≤ k ∧ k < w2.heap.size)))
  have HU2 := Aside0.mk hu2
  clear hv2 hr2 hu2
  clear HV2
  go_wp2_with fail
  obtain ⟨wc, hwc⟩ : ∃ wc, wc = w2.alloc (.cells #[.int .i64 room, .int .i64 words, .slice A3 q'.length c3] 43) := ⟨_, rfl⟩
  have hu2c : Upd w2 wc (fun _ => False) := by rw [hwc]; exact (Upd.refl _ _).alloc _
  rw [← hwc]
  clear hwc
  have HR3 := Aside0.mk (R_upd0 HR2.out hu2c)
  have hz23 := hu2c.size
  have hu := HU2.out.step hu2c
  have hwc : Upd w wc (fun _ => False) := HU1.out.step hu
  have HWC := Aside0.mk hwc
  have hs1 := HS1.out
  have hzc := hu.size
  have d0 := cell_upd0 hu c00
  have d1 := cell_upd0 hu c01
  have d2 := cell_upd0 hu c02
  have HBc := Aside0.mk ((hu.block hl2 (fun h => h)).trans HB2.out)
  have hnp : ¬ w.heap.size = w.heap.size + 1 + 1 := by omega
  have NF := Aside0.mk (show ∀ k, w.heap.size ≤ k → ¬ (F k ∧ k < w.heap.size) from fun k hk h => by omega)
  clear HU2 HR2 hu2c hu hwc c00 c01 c02
  go_wp2_with fail
  have htk := peek_any wc _ b room words q (HA.out.bound.upd0 HWC.out)
  rw [HST.out] at htk
  refine htk.mono ?_
  rintro e w4 ⟨v4, rfl, hr4, hu4⟩
  obtain ⟨A4, c4, rfl⟩ := Kd.R_slice hr4
  have k0 := cell_upd0 hu4 d0
  have k1 := cell_upd0 hu4 d1
  have k2 := cell_upd0 hu4 d2
  have hbt := (hu4.block (by show _ < wc.heap.size; omega) (fun h => h)).trans HBc.out
  have k4 := blk_frozen hbt 0
  have k5 := blk_frozen hbt 1
  have k6 := blk_frozen hbt 2
  have k7 := (blk_cell hbt 0).trans rfl
  have k8 := (blk_cell hbt 1).trans rfl
  have k9 := (blk_cell hbt 2).trans rfl
  have HBT := Aside0.mk hbt
  have HQ := Aside0.mk ((HA.out.bound.upd0 HWC.out).upd0 hu4)
  have HU4 := Aside0.mk (hu4.mono (G := fun k => F k ∧ k < w.heap.size) (fun _ h => h.elim))
  have HR4 := Aside0.mk (Kd.R_reads' hr4).2.2
  have HR5 := Aside0.mk (Kd.R_reads' (R_upd0 HR3.out hu4)).2.2
  have HVc := Aside0.mk (show VL wc (fun k => (G k ∧ k < w.heap.size) ∨ (w.heap.size ≤ k ∧ k < wc.heap.size ∧ k ≠ w.heap.size + 1 + 1)) (.slice Av q.length cv) q from Kd.V_mono (Kd.V_kept (Kd.V_bound HR.out) HWC.out.kept (fun _ _ h => h)) (fun k hk => .inl hk))
  clear htk hr4 hu4 hbt HR3 d0 d1 d2
  go_wp2_with fail
  go_region_held3 (fun w' => w'.cell? ⟨w.heap.size, 0, none⟩ = some (.int .i64 room) ∧ w'.cell? ⟨w.heap.size, 1, none⟩ = some (.int .i64 words) ∧ w'.cell? ⟨w.heap.size, 2, none⟩ = some (.slice Av q.length cv)) (first | exact ⟨k0, k1, k2⟩ | exact ⟨cell_afar3 k0 hnp, cell_afar3 k1 hnp, cell_afar3 k2 hnp⟩ | go_keep)
    (first
      | (go_at_call 13; refine (SameR.same_calls A4 c4 x0 Au cu x0 _ (Kd.C_drew HR4.out) (Kd.C_drew HR5.out)).mono ?_; rw [show eqB x0 x0 = true by simp [eqB]]; rintro e w6 ⟨rfl, q6, rfl⟩))
  go_wp2_with fail
  refine bodyPost_ret (results_ct rfl _ _ (w.heap.size + 1 + 1) 43 #[.int .i64 room, .int .i64 words, .slice Av q.length cv] (0, 0) _ rfl (blk_set (blk_set (blk_set HBT.out 0 _) 1 _) 2 _) Try.underlying43 rfl (by kernel_rfl)) rfl ?_
  exact fin HD.out HWC.out (by omega) (by omega) (Upd.refl wc _) (HQ.out.mono (fun k hk => .inl hk)) HU4.out (((((Upd.refl w4 (fun k => k = w.heap.size + 1 + 1)).drewN _).setCell (.inl rfl) _).setCell (.inl rfl) _).setCell (.inl rfl) _) HVc.out

set_option maxRecDepth 20000 in
set_option maxHeartbeats 4000000 in
theorem do3 (w : World) (F G : Nat → Prop) (b room words : Nat) (v : Value) (q : List (List Int)) (kind : Int) (A : Option Addr) (c : Nat) (m m0 : List Int) (h : Two w F G b room words v q) (hA : nk.C w A m.length m) (hc : m.length ≤ c) (hke : wrap64 ((IntKind.u64.wrap kind).tmod 4) = 3) :
    Calls Try.prog 18 #[.pointer (some ⟨b, 0, none⟩), .agg #[.int .i64 room, .int .i64 words, v], .agg #[.int .i64 kind, .slice A m.length c]] w (Done w F G b room words (stepQ 3 m0 words room q)) := by
  obtain ⟨ha, hr, hd⟩ := h
  obtain ⟨Av, cv, rfl⟩ := Kd.V_slice hr
  have HA := Aside0.mk ha
  have HR := Aside0.mk hr
  have HD := Aside0.mk hd
  have HM := Aside0.mk hA
  have hbl := ha.lt
  clear ha hr hd hA
  obtain ⟨W1, hW1⟩ : ∃ W1, W1 = (((w.alloc (.cells #[.int .i64 room, .int .i64 words, .slice Av q.length cv] 43)).alloc (.cells #[.int .i64 kind, .slice A m.length c] 49)).alloc (.cells #[.int .i64 0, .int .i64 0, .slice none 0 0] 43)) := ⟨_, rfl⟩
  have hs1 : W1.heap.size = w.heap.size + 1 + 1 + 1 := by rw [hW1]; simp
  have HU1 : Aside0 (Upd w W1 (fun _ => False)) := ⟨by rw [hW1]; exact (((Upd.refl _ _).alloc _).alloc _).alloc _⟩
  have hb0 : W1.heap[w.heap.size]? = some (.cells #[.int .i64 room, .int .i64 words, .slice Av q.length cv] 43 (0, 0)) := by rw [hW1]; exact blk_alloc (blk_alloc (heap_alloc_new w _) _) _
  have hb1 : W1.heap[w.heap.size + 1]? = some (.cells #[.int .i64 kind, .slice A m.length c] 49 (0, 0)) := by rw [hW1]; exact blk_alloc (by simpa using heap_alloc_new (w.alloc (.cells #[.int .i64 room, .int .i64 words, .slice Av q.length cv] 43)) (.cells #[.int .i64 kind, .slice A m.length c] 49)) _
  have hb2 : W1.heap[w.heap.size + 1 + 1]? = some (.cells #[.int .i64 0, .int .i64 0, .slice none 0 0] 43 (0, 0)) := by rw [hW1]; simpa using heap_alloc_new ((w.alloc (.cells #[.int .i64 room, .int .i64 words, .slice Av q.length cv] 43)).alloc (.cells #[.int .i64 kind, .slice A m.length c] 49)) (.cells #[.int .i64 0, .int .i64 0, .slice none 0 0] 43)
  have HB0 := Aside0.mk hb0
  have HB1 := Aside0.mk hb1
  have HB2 := Aside0.mk hb2
  have HS1 := Aside0.mk hs1
  have hl0 : w.heap.size < W1.heap.size := by omega
  have hl1 : w.heap.size + 1 < W1.heap.size := by omega
  have hl2 : w.heap.size + 1 + 1 < W1.heap.size := by omega
  have c00 : W1.cell? ⟨w.heap.size, 0, none⟩ = some (.int .i64 room) := blk_cell hb0 0
  have c01 : W1.cell? ⟨w.heap.size, 1, none⟩ = some (.int .i64 words) := blk_cell hb0 1
  have c02 : W1.cell? ⟨w.heap.size, 2, none⟩ = some (.slice Av q.length cv) := blk_cell hb0 2
  have c10 : W1.cell? ⟨w.heap.size + 1, 0, none⟩ = some (.int .i64 kind) := blk_cell hb1 0
  have c11 : W1.cell? ⟨w.heap.size + 1, 1, none⟩ = some (.slice A m.length c) := blk_cell hb1 1
  clear hs1 hb0 hb1 hb2
  have hu34 := Try.underlying43
  have hu38 := Try.underlying49
  have hgoal : stepQ 3 m0 words room q = [] := rfl
  rw [hgoal]
  clear hgoal
  go_enter Try.func18, Try.ntmps18
  go_wp2_with fail
  rw [← hW1]
  clear hW1
  go_wp2_with fail
  refine (q_clear W1 _ b room words q (HA.out.bound.upd0 HU1.out)).mono ?_
  rintro e w4 ⟨rfl, hq4, hu4⟩
  have hs1 := HS1.out
  have hz4 := hu4.size
  have NF := Aside0.mk (show ∀ k, w.heap.size ≤ k → ¬ (F k ∧ k < w.heap.size) from fun k hk h => by omega)
  have hbt := (hu4.block hl2 (NF.out _ (by omega))).trans HB2.out
  have hb0 := (hu4.block hl0 (NF.out _ (by omega))).trans HB0.out
  have k0 := (blk_cell hb0 0).trans rfl
  have k1 := (blk_cell hb0 1).trans rfl
  have k2 := (blk_cell hb0 2).trans rfl
  have k3 := blk_frozen hb0 2
  have k4 := blk_frozen hbt 0
  have k5 := blk_frozen hbt 1
  have k6 := blk_frozen hbt 2
  have k7 := (blk_cell hbt 0).trans rfl
  have k8 := (blk_cell hbt 1).trans rfl
  have k9 := (blk_cell hbt 2).trans rfl
  have HBT := Aside0.mk hbt
  have HQ := Aside0.mk hq4
  have HU4 := Aside0.mk hu4
  have hn : ¬ w.heap.size + 1 + 1 = w.heap.size := by omega
  clear hbt hb0 hq4 hu4 c00 c01 c02 c10 c11
  go_wp2_with fail
  refine bodyPost_ret (results_ct rfl _ _ (w.heap.size + 1 + 1) 43 #[.int .i64 room, .int .i64 words, .slice none 0 0] (0, 0) _ rfl (blk_set (blk_set (blk_set (blk_far HBT.out hn _) 0 _) 1 _) 2 _) Try.underlying43 rfl (by kernel_rfl)) rfl ?_
  have hX := ((((Upd.refl w4 (fun k => w.heap.size ≤ k)).setCell (p := ⟨w.heap.size, 2, none⟩) (.inl (Nat.le_refl _)) (.slice none 0 0)).setCell (p := ⟨w.heap.size + 1 + 1, 0, none⟩) (.inl (by show _ ≤ w.heap.size + 1 + 1; omega)) (.int .i64 room)).setCell (p := ⟨w.heap.size + 1 + 1, 1, none⟩) (.inl (by show _ ≤ w.heap.size + 1 + 1; omega)) (.int .i64 words)).setCell (p := ⟨w.heap.size + 1 + 1, 2, none⟩) (.inl (by show _ ≤ w.heap.size + 1 + 1; omega)) (.slice none 0 0)
  exact ⟨_, fun k => F k ∧ k < w.heap.size, fun _ => False, rfl, ⟨HQ.out.upd' hX (fun k hk _ h => by omega), Kd.V_nil _ _ _ _ _, fun _ _ h => h⟩, fun k hk => .inl hk.1, fun _ h => h.elim, ((HU1.out.mono (G := F) (fun _ h => h.elim)).trans HU4.out (fun k hk => .inl hk.1)).trans hX (fun k hk => .inr hk)⟩

/-- Whatever is asked: of some kind below 4 (the kind's own, whoever asks). -/
theorem do_calls (kind : Int) : ∃ k : Nat, k < 4 ∧ ∀ (w : World) (F G : Nat → Prop) (b room words : Nat) (v : Value) (q : List (List Int)) (A : Option Addr) (c : Nat) (m : List Int), Two w F G b room words v q → nk.C w A m.length m → m.length ≤ c →
    Calls Try.prog 18 #[.pointer (some ⟨b, 0, none⟩), .agg #[.int .i64 room, .int .i64 words, v], .agg #[.int .i64 kind, .slice A m.length c]] w (Done w F G b room words (stepQ k (m.take 40) words room q)) := by
  obtain ⟨k, hk, hke⟩ := u64_mod kind 4 (by omega) (by omega)
  refine ⟨k, by omega, fun w F G b room words v q A c m h hA hc => ?_⟩
  have hql : q.length ≤ 100000 := by
    obtain ⟨⟨_, _, _, _, h4, h5, _⟩, _⟩ := id h
    omega
  have : k = 0 ∨ k = 1 ∨ k = 2 ∨ k = 3 := by omega
  rcases this with rfl | rfl | rfl | rfl
  · exact do0 w F G b room words v q kind A c m h hA hc hql hke
  · exact do1 w F G b room words v q kind A c m _ h hA hc hql hke
  · exact do2 w F G b room words v q kind A c m _ h hA hc hql hke
  · exact do3 w F G b room words v q kind A c m _ h hA hc hke
end Go.Proofs.Ytnnoeomjamlhbaa.RingDo
