import Derived.Test.YtfmbpiimadljkaaEvRef
import Derived.Test.YtfmbpiimadljkaaEvCl
set_option linter.unusedVariables false
set_option linter.unusedSimpArgs false
namespace Go.Proofs.Ytfmbpiimadljkaa.EvDo
attribute [local go_sem ↓] Go.wp_at_zero Go.wp_at_succ
open Go.RowKit Go.Proofs.YtfmbpiimadljkaaW.PrintWords Go.Proofs.Ytfmbpiimadljkaa.Own Go.Proofs.Ytfmbpiimadljkaa.Ev Go.Proofs.Ytfmbpiimadljkaa.SlI Go.Proofs.Ytfmbpiimadljkaa.EvDrop Go.Proofs.Ytfmbpiimadljkaa.EvRef Go.Proofs.Ytfmbpiimadljkaa.EvCl

/-- What is done, of four. -/
def stepE (k : Nat) (id : Int) (up : Bool) (l : List Int) : Bool × List Int :=
  if k = 0 then (true, []) else if k = 1 then (false, l) else if k = 2 then (up, waitL up l id) else (up, without l id)

/-- The Event, and the document's beside it. -/
def Two (w : World) (F G : Nat → Prop) (b : Nat) (up : Bool) (v : Value) (l : List Int) : Prop :=
  At w F b up l ∧ ints.R 3 w 0 G v l ∧ ∀ k, F k → ¬ G k


/-- What do leaves. -/
def Done (w : World) (F G : Nat → Prop) (b : Nat) (up' : Bool) (l' : List Int) (e : Ending) (w' : World) : Prop :=
  ∃ v' F' G', e = .returned (.tuple #[.agg #[.bool up', v'], .bool true]) ∧ Two w' F' G' b up' v' l' ∧ (∀ k, F' k → F k ∨ w.heap.size ≤ k) ∧ (∀ k, G' k → G k ∨ w.heap.size ≤ k) ∧ Upd w w' F

/-- Behind Set, in the statement that draws its order. -/
structure Mid (w : World) (F G : Nat → Prop) (b : Nat) (A : Option Addr) (c : Nat) (A2 : Option Addr) (c2 : Nat) (l : List Int) (cs : Array Value) (w2 : World) : Prop where
  upd : Upd w w2 F
  ev : At w2 (fun k => k = b) b true []
  row : ints.R 3 w2 0 (fun k => F k ∧ k < w.heap.size) (.slice A2 l.length c2) l
  ref : ints.R 3 w2 0 (fun k => G k ∧ k < w.heap.size) (.slice A l.length c) l
  p0 : w2.cell? ⟨w.heap.size, 1, none⟩ = some (.slice A l.length c)
  p2 : w2.heap[w.heap.size + 1 + 1]? = some (.cells cs 34 (0, 0))

set_option maxHeartbeats 2000000 in
theorem do0 (w : World) (F G : Nat → Prop) (b : Nat) (up : Bool) (v : Value) (l : List Int) (kind id : Int) (h : Two w F G b up v l) (hl : l.length ≤ 900000) (hke : wrap64 ((IntKind.u64.wrap kind).tmod 4) = 0) :
    Calls Try.prog 20 #[.pointer (some ⟨b, 0, none⟩), .agg #[.bool up, v], .agg #[.int .i64 kind, .int .i64 id]] w (Done w F G b true []) := by
  obtain ⟨ha, hr, hd⟩ := h
  obtain ⟨A, c, rfl⟩ := Kd.R_slice hr
  have HA := Aside0.mk ha
  have HR := Aside0.mk hr
  have HD := Aside0.mk hd
  have HC := Aside0.mk (Kd.R_reads' hr).2.2
  have hbl := ha.lt
  clear ha hr hd
  obtain ⟨W1, hW1⟩ : ∃ W1, W1 = (((w.alloc (.cells #[.bool up, .slice A l.length c] 34)).alloc (.cells #[.int .i64 kind, .int .i64 id] 38)).alloc (.cells #[.bool false, .slice none 0 0] 34)) := ⟨_, rfl⟩
  have hs1 : W1.heap.size = w.heap.size + 1 + 1 + 1 := by rw [hW1]; simp
  have HU1 : Aside0 (Upd w W1 (fun _ => False)) := ⟨by rw [hW1]; exact (((Upd.refl _ _).alloc _).alloc _).alloc _⟩
  have hb0 : W1.heap[w.heap.size]? = some (.cells #[.bool up, .slice A l.length c] 34 (0, 0)) := by rw [hW1]; exact blk_alloc (blk_alloc (heap_alloc_new w _) _) _
  have hb1 : W1.heap[w.heap.size + 1]? = some (.cells #[.int .i64 kind, .int .i64 id] 38 (0, 0)) := by rw [hW1]; exact blk_alloc (by simpa using heap_alloc_new (w.alloc (.cells #[.bool up, .slice A l.length c] 34)) (.cells #[.int .i64 kind, .int .i64 id] 38)) _
  have hb2 : W1.heap[w.heap.size + 1 + 1]? = some (.cells #[.bool false, .slice none 0 0] 34 (0, 0)) := by rw [hW1]; simpa using heap_alloc_new ((w.alloc (.cells #[.bool up, .slice A l.length c] 34)).alloc (.cells #[.int .i64 kind, .int .i64 id] 38)) (.cells #[.bool false, .slice none 0 0] 34)
  have HB0 := Aside0.mk hb0
  have HB1 := Aside0.mk hb1
  have HB2 := Aside0.mk hb2
  have HS1 := Aside0.mk hs1
  have hl0 : w.heap.size < W1.heap.size := by omega
  have hl1 : w.heap.size + 1 < W1.heap.size := by omega
  have hl2 : w.heap.size + 1 + 1 < W1.heap.size := by omega
  have c00 : W1.cell? ⟨w.heap.size, 0, none⟩ = some (.bool up) := blk_cell hb0 0
  have c01 : W1.cell? ⟨w.heap.size, 1, none⟩ = some (.slice A l.length c) := blk_cell hb0 1
  have c10 : W1.cell? ⟨w.heap.size + 1, 0, none⟩ = some (.int .i64 kind) := blk_cell hb1 0
  have c11 : W1.cell? ⟨w.heap.size + 1, 1, none⟩ = some (.int .i64 id) := blk_cell hb1 1
  have c20 : W1.cell? ⟨w.heap.size + 1 + 1, 0, none⟩ = some (.bool false) := blk_cell hb2 0
  have c21 : W1.cell? ⟨w.heap.size + 1 + 1, 1, none⟩ = some (.slice none 0 0) := blk_cell hb2 1
  have f00 : W1.frozen? ⟨w.heap.size, 0, none⟩ = false := blk_frozen hb0 0
  have f01 : W1.frozen? ⟨w.heap.size, 1, none⟩ = false := blk_frozen hb0 1
  have f20 : W1.frozen? ⟨w.heap.size + 1 + 1, 0, none⟩ = false := blk_frozen hb2 0
  have f21 : W1.frozen? ⟨w.heap.size + 1 + 1, 1, none⟩ = false := blk_frozen hb2 1
  clear hs1 hb0 hb1 hb2
  have hu34 := Try.underlying34
  have hu38 := Try.underlying38
  have hF0 : F b := HA.out.1
  have setR : Aside0 (∀ X cs, Upd W1 X (fun k => k = w.heap.size + 1 + 1) → X.heap[w.heap.size + 1 + 1]? = some (.cells cs 34 (0, 0)) →
      Calls Try.prog 11 #[.pointer (some ⟨b, 0, none⟩)] X fun e w2 => ∃ A2 c2, e = .returned (.slice A2 l.length c2) ∧ Mid w F G b A c A2 c2 l cs w2) := ⟨by
    intro X cs hX h2
    have hwX : Upd w X (fun _ => False) := HU1.out.trans hX (fun k hk => .inr (by omega))
    have haX := HA.out.bound.upd0 hwX
    refine (set_calls X _ b up l haX).mono ?_
    rintro e w2 ⟨v2, rfl, hr2, ha2, hu2⟩
    obtain ⟨A2, c2, rfl⟩ := Kd.R_slice hr2
    have hp0 : X.cell? ⟨w.heap.size, 1, none⟩ = some (.slice A l.length c) := cell_kept c01 hX.kept (by show ¬ w.heap.size = _; omega)
    have hrX := R_upd HR.out hwX (fun k _ _ hf => hf)
    have hzX := hX.size
    refine ⟨A2, c2, rfl, ⟨(hwX.mono (G := F) (fun _ h => h.elim)).trans hu2 (fun k hk => by rw [hk]; exact .inl hF0), ha2, Kd.R_mono hr2 (fun k hk => hk.1), ?_, ?_, ?_⟩⟩
    · exact Kd.R_mono (R_upd hrX hu2 (fun k hk _ h => by rw [h] at hk; exact HD.out b hF0 hk.1)) (fun k hk => hk.1)
    · exact cell_kept hp0 hu2.kept (by show ¬ w.heap.size = b; omega)
    · exact (hu2.block (by omega) (by show ¬ w.heap.size + 1 + 1 = b; omega)).trans h2⟩
  have sameR : Aside0 (∀ X cs cs' A2 c2, Mid w F G b A c A2 c2 l cs X ∨ (∃ Y, Mid w F G b A c A2 c2 l cs' Y ∧ Upd Y X (fun k => k = w.heap.size + 1 + 1) ∧ X.heap[w.heap.size + 1 + 1]? = some (.cells cs 34 (0, 0))) →
      Calls Try.prog 15 #[.slice A2 l.length c2, .slice A l.length c] X fun e w2 => e = .returned (.bool true) ∧ Mid w F G b A c A2 c2 l cs w2) := ⟨by
    intro X cs cs' A2 c2 hM
    have hM' : Mid w F G b A c A2 c2 l cs X := by
      rcases hM with hM | ⟨Y, hM, hu, h2⟩
      · exact hM
      · have hd : ∀ k, k < w.heap.size → ¬ k = w.heap.size + 1 + 1 := fun k hk => by omega
        refine ⟨hM.upd.trans hu (fun k hk => .inr (by omega)), ?_, ?_, ?_, ?_, h2⟩
        · exact hM.ev.upd' hu (fun k hk hlt => by rw [hk]; exact hd b hbl)
        · exact R_upd' hM.row hu (fun k hk _ => hd k hk.2)
        · exact R_upd' hM.ref hu (fun k hk _ => hd k hk.2)
        · exact cell_kept hM.p0 hu.kept (by show ¬ w.heap.size = w.heap.size + 1 + 1; omega)
    refine (SameR.same_calls A2 c2 l A c l X (Kd.R_reads' hM'.row).2.2 (Kd.R_reads' hM'.ref).2.2).mono ?_
    rw [show eqB l l = true by simp [eqB]]
    rintro e w2 ⟨rfl, q, rfl⟩
    exact ⟨rfl, hM'.upd.drewN q, hM'.ev.upd0 (Upd.of_q ⟨q, rfl⟩), R_upd0 hM'.row (Upd.of_q ⟨q, rfl⟩), R_upd0 hM'.ref (Upd.of_q ⟨q, rfl⟩), hM'.p0, hM'.p2⟩⟩
  have hbl2 : b < W1.heap.size := by omega
  go_enter Try.func20, Try.ntmps20
  go_wp2_with fail
  rw [← hW1]
  clear hW1
  go_region_held3 (fun w' => w'.cell? ⟨w.heap.size, 1, none⟩ = some (.slice A l.length c)) (first | go_keep | exact cell_far2 k0 (by omega))
    (first
      | (go_at_call 11; refine (setR.out _ #[.bool false, .slice none 0 0] ?_ ?_).mono ?_; (exact (Upd.refl _ _).drew); (exact HB2.out); rintro e w2 ⟨A2, c2, rfl, hM⟩; have k0 := hM.p0; have k1 : w2.cell? ⟨w.heap.size + 1 + 1, 0, none⟩ = some (.bool false) := (blk_cell hM.p2 0).trans rfl; have k2 : w2.cell? ⟨w.heap.size + 1 + 1, 1, none⟩ = some (.slice none 0 0) := (blk_cell hM.p2 1).trans rfl; have k3 := blk_frozen hM.p2 0; have k4 := blk_frozen hM.p2 1; have hz := hM.upd.size; have M2 := Aside0.mk hM; clear hM)
      | (go_at_call 11; refine (setR.out _ #[.bool true, .slice none 0 0] ?_ ?_).mono ?_; (exact (((Upd.refl W1 (fun k => k = w.heap.size + 1 + 1)).drew).setCell (.inl rfl) _).setCell (.inl rfl) _); (exact blk_set (blk_set HB2.out 0 _) 1 _); rintro e w2 ⟨A2, c2, rfl, hM⟩; have k0 := hM.p0; have M2 := Aside0.mk hM; clear hM)
      | (go_at_call 15; refine (sameR.out _ _ #[] _ _ (.inl M2.out)).mono ?_; rintro e w3 ⟨rfl, hM⟩; have k0 := hM.p0; have k1 : w3.cell? ⟨w.heap.size + 1 + 1, 0, none⟩ = some (.bool _) := (blk_cell hM.p2 0).trans rfl; have k2 : w3.cell? ⟨w.heap.size + 1 + 1, 1, none⟩ = some (.slice none 0 0) := (blk_cell hM.p2 1).trans rfl; have k3 := blk_frozen hM.p2 0; have k4 := blk_frozen hM.p2 1; have hz := hM.upd.size; have M3 := Aside0.mk hM; clear hM M2)
      | (go_at_call 15; refine (sameR.out _ #[.bool true, .slice none 0 0] _ _ _ (.inr ⟨_, M2.out, ?_, ?_⟩)).mono ?_; (exact (((Upd.refl _ (fun k => k = w.heap.size + 1 + 1))).setCell (.inl rfl) _).setCell (.inl rfl) _); (exact blk_set (blk_set M2.out.p2 0 _) 1 _); rintro e w3 ⟨rfl, hM⟩; have k0 := hM.p0; have M3 := Aside0.mk hM; clear hM M2))
  go_wp2_with fail
  refine bodyPost_ret (results_ct rfl _ _ (w.heap.size + 1 + 1) 34 #[.bool true, .slice none 0 0] (0, 0) _ rfl (blk_set (blk_set M3.out.p2 0 _) 1 _) Try.underlying34 rfl (by kernel_rfl)) rfl ?_
  have hb2 : ¬ b = w.heap.size + 1 + 1 := by omega
  have hu := ((Upd.refl w3 (fun k => k = w.heap.size + 1 + 1)).setCell (p := ⟨w.heap.size + 1 + 1, 0, none⟩) (.inl rfl) (.bool true)).setCell (p := ⟨w.heap.size + 1 + 1, 1, none⟩) (.inl rfl) (.slice none 0 0)
  exact ⟨_, fun k => k = b, fun _ => False, rfl, ⟨M3.out.ev.upd' hu (fun k hk _ => by rw [hk]; exact hb2), Kd.R_nil _ _ _ _ _, fun _ _ h => h⟩, fun k hk => by rw [hk]; exact .inl hF0, fun _ h => h.elim, M3.out.upd.trans hu (fun k hk => .inr (by omega))⟩

set_option maxHeartbeats 2000000 in
theorem do1 (w : World) (F G : Nat → Prop) (b : Nat) (up : Bool) (v : Value) (l : List Int) (kind id : Int) (h : Two w F G b up v l) (hl : l.length ≤ 900000) (hke : wrap64 ((IntKind.u64.wrap kind).tmod 4) = 1) :
    Calls Try.prog 20 #[.pointer (some ⟨b, 0, none⟩), .agg #[.bool up, v], .agg #[.int .i64 kind, .int .i64 id]] w (Done w F G b false l) := by
  obtain ⟨ha, hr, hd⟩ := h
  obtain ⟨A, c, rfl⟩ := Kd.R_slice hr
  have HA := Aside0.mk ha
  have HR := Aside0.mk hr
  have HD := Aside0.mk hd
  have HC := Aside0.mk (Kd.R_reads' hr).2.2
  have hbl := ha.lt
  clear ha hr hd
  obtain ⟨W1, hW1⟩ : ∃ W1, W1 = (((w.alloc (.cells #[.bool up, .slice A l.length c] 34)).alloc (.cells #[.int .i64 kind, .int .i64 id] 38)).alloc (.cells #[.bool false, .slice none 0 0] 34)) := ⟨_, rfl⟩
  have hs1 : W1.heap.size = w.heap.size + 1 + 1 + 1 := by rw [hW1]; simp
  have HU1 : Aside0 (Upd w W1 (fun _ => False)) := ⟨by rw [hW1]; exact (((Upd.refl _ _).alloc _).alloc _).alloc _⟩
  have hb0 : W1.heap[w.heap.size]? = some (.cells #[.bool up, .slice A l.length c] 34 (0, 0)) := by rw [hW1]; exact blk_alloc (blk_alloc (heap_alloc_new w _) _) _
  have hb1 : W1.heap[w.heap.size + 1]? = some (.cells #[.int .i64 kind, .int .i64 id] 38 (0, 0)) := by rw [hW1]; exact blk_alloc (by simpa using heap_alloc_new (w.alloc (.cells #[.bool up, .slice A l.length c] 34)) (.cells #[.int .i64 kind, .int .i64 id] 38)) _
  have hb2 : W1.heap[w.heap.size + 1 + 1]? = some (.cells #[.bool false, .slice none 0 0] 34 (0, 0)) := by rw [hW1]; simpa using heap_alloc_new ((w.alloc (.cells #[.bool up, .slice A l.length c] 34)).alloc (.cells #[.int .i64 kind, .int .i64 id] 38)) (.cells #[.bool false, .slice none 0 0] 34)
  have HB0 := Aside0.mk hb0
  have HB1 := Aside0.mk hb1
  have HB2 := Aside0.mk hb2
  have HS1 := Aside0.mk hs1
  have hl0 : w.heap.size < W1.heap.size := by omega
  have hl1 : w.heap.size + 1 < W1.heap.size := by omega
  have hl2 : w.heap.size + 1 + 1 < W1.heap.size := by omega
  have c00 : W1.cell? ⟨w.heap.size, 0, none⟩ = some (.bool up) := blk_cell hb0 0
  have c01 : W1.cell? ⟨w.heap.size, 1, none⟩ = some (.slice A l.length c) := blk_cell hb0 1
  have c10 : W1.cell? ⟨w.heap.size + 1, 0, none⟩ = some (.int .i64 kind) := blk_cell hb1 0
  have c11 : W1.cell? ⟨w.heap.size + 1, 1, none⟩ = some (.int .i64 id) := blk_cell hb1 1
  have c20 : W1.cell? ⟨w.heap.size + 1 + 1, 0, none⟩ = some (.bool false) := blk_cell hb2 0
  have c21 : W1.cell? ⟨w.heap.size + 1 + 1, 1, none⟩ = some (.slice none 0 0) := blk_cell hb2 1
  have f00 : W1.frozen? ⟨w.heap.size, 0, none⟩ = false := blk_frozen hb0 0
  have f01 : W1.frozen? ⟨w.heap.size, 1, none⟩ = false := blk_frozen hb0 1
  have f20 : W1.frozen? ⟨w.heap.size + 1 + 1, 0, none⟩ = false := blk_frozen hb2 0
  have f21 : W1.frozen? ⟨w.heap.size + 1 + 1, 1, none⟩ = false := blk_frozen hb2 1
  clear hs1 hb0 hb1 hb2
  have hu34 := Try.underlying34
  have hu38 := Try.underlying38
  have hF0 : F b := HA.out.1
  have hu2 : Aside0 (At W1 (fun k => F k ∧ k < w.heap.size) b up l) := ⟨HA.out.bound.upd0 HU1.out⟩
  go_enter Try.func20, Try.ntmps20
  go_wp2_with fail
  rw [← hW1]
  clear hW1
  refine (reset_calls W1 _ b up l hu2.out).mono ?_
  rintro e w2 ⟨rfl, ha2, hu2⟩
  have hd0 : ¬ w.heap.size = b := by omega
  have hd2 : ¬ w.heap.size + 1 + 1 = b := by omega
  have hz2 := hu2.size
  have HB02 := Aside0.mk ((hu2.block hl0 hd0).trans HB0.out)
  have HB22 := Aside0.mk ((hu2.block hl2 hd2).trans HB2.out)
  have HA2 := Aside0.mk ha2
  have HR2 := Aside0.mk (R_upd (R_upd HR.out HU1.out (fun _ _ _ h => h)) hu2 (fun k hk _ h => by rw [h] at hk; exact HD.out b hF0 hk.1))
  have HU2 := Aside0.mk (((HU1.out.mono (G := F) (fun _ h => h.elim))).trans hu2 (fun k hk => by rw [hk]; exact .inl hF0))
  have e00 : w2.cell? ⟨w.heap.size, 0, none⟩ = some (.bool up) := blk_cell HB02.out 0
  have e01 : w2.cell? ⟨w.heap.size, 1, none⟩ = some (.slice A l.length c) := blk_cell HB02.out 1
  have e20 : w2.cell? ⟨w.heap.size + 1 + 1, 0, none⟩ = some (.bool false) := blk_cell HB22.out 0
  have e21 : w2.cell? ⟨w.heap.size + 1 + 1, 1, none⟩ = some (.slice none 0 0) := blk_cell HB22.out 1
  have g00 : w2.frozen? ⟨w.heap.size, 0, none⟩ = false := blk_frozen HB02.out 0
  have g20 : w2.frozen? ⟨w.heap.size + 1 + 1, 0, none⟩ = false := blk_frozen HB22.out 0
  have g21 : w2.frozen? ⟨w.heap.size + 1 + 1, 1, none⟩ = false := blk_frozen HB22.out 1
  clear c00 c01 c10 c11 c20 c21 f00 f01 f20 f21 ha2 hu2 HU1 HA HR HB0 HB1 HB2
  go_wp2_with fail
  refine bodyPost_ret (results_ct rfl _ _ (w.heap.size + 1 + 1) 34 #[.bool false, .slice A l.length c] (0, 0) _ rfl (blk_set (blk_set (blk_far HB22.out (by show w.heap.size + 1 + 1 ≠ w.heap.size; omega) _) 0 _) 1 _) Try.underlying34 rfl (by kernel_rfl)) rfl ?_
  have hu := (((Upd.refl w2 (fun k => w.heap.size ≤ k)).setCell (p := ⟨w.heap.size, 0, none⟩) (.inl (Nat.le_refl _)) (.bool false)).setCell (p := ⟨w.heap.size + 1 + 1, 0, none⟩) (.inl (by simp; omega)) (.bool false)).setCell (p := ⟨w.heap.size + 1 + 1, 1, none⟩) (.inl (by simp; omega)) (.slice A l.length c)
  exact ⟨_, fun k => F k ∧ k < w.heap.size, fun k => G k ∧ k < w.heap.size, rfl, ⟨(HA2.out.upd' hu (fun k hk _ h => by omega)), Kd.R_mono (R_upd' HR2.out hu (fun k hk _ h => by omega)) (fun k hk => ⟨hk.1.1, hk.1.2⟩), fun k hk hg => HD.out k hk.1 hg.1⟩, fun k hk => .inl hk.1, fun k hk => .inl hk.1, HU2.out.trans hu (fun k hk => .inr hk)⟩

/-- Behind the Event's own call, in a statement that draws its order. -/
structure Mid2 (w : World) (F G : Nat → Prop) (b : Nat) (up : Bool) (v : Value) (l l' : List Int) (p2 p3 : Nat) (id : Int) (cs : Array Value) (w2 : World) : Prop where
  upd : Upd w w2 F
  ev : At w2 F b up l
  ref : ints.R 3 w2 0 G v l'
  q1 : w2.cell? ⟨w.heap.size + 1, 1, none⟩ = some (.int .i64 id)
  q2 : w2.heap[p2]? = some (.cells cs 34 (0, 0))
  q3 : w2.heap[p3]? = some (.cells #[.bool up, v] 34 (0, 0))
  sz : p2 < w2.heap.size ∧ p3 < w2.heap.size

set_option maxHeartbeats 2000000 in
theorem do2 (w : World) (F G : Nat → Prop) (b : Nat) (up : Bool) (v : Value) (l : List Int) (kind id : Int) (h : Two w F G b up v l) (hl : l.length ≤ 900000) (hke : wrap64 ((IntKind.u64.wrap kind).tmod 4) = 2) :
    Calls Try.prog 20 #[.pointer (some ⟨b, 0, none⟩), .agg #[.bool up, v], .agg #[.int .i64 kind, .int .i64 id]] w (Done w F G b up (waitL up l id)) := by
  obtain ⟨ha, hr, hd⟩ := h
  obtain ⟨A, c, rfl⟩ := Kd.R_slice hr
  have HA := Aside0.mk ha
  have HR := Aside0.mk hr
  have HD := Aside0.mk hd
  have HC := Aside0.mk (Kd.R_reads' hr).2.2
  have hbl := ha.lt
  clear ha hr hd
  obtain ⟨W1, hW1⟩ : ∃ W1, W1 = (((w.alloc (.cells #[.bool up, .slice A l.length c] 34)).alloc (.cells #[.int .i64 kind, .int .i64 id] 38)).alloc (.cells #[.bool false, .slice none 0 0] 34)) := ⟨_, rfl⟩
  have hs1 : W1.heap.size = w.heap.size + 1 + 1 + 1 := by rw [hW1]; simp
  have HU1 : Aside0 (Upd w W1 (fun _ => False)) := ⟨by rw [hW1]; exact (((Upd.refl _ _).alloc _).alloc _).alloc _⟩
  have hb0 : W1.heap[w.heap.size]? = some (.cells #[.bool up, .slice A l.length c] 34 (0, 0)) := by rw [hW1]; exact blk_alloc (blk_alloc (heap_alloc_new w _) _) _
  have hb1 : W1.heap[w.heap.size + 1]? = some (.cells #[.int .i64 kind, .int .i64 id] 38 (0, 0)) := by rw [hW1]; exact blk_alloc (by simpa using heap_alloc_new (w.alloc (.cells #[.bool up, .slice A l.length c] 34)) (.cells #[.int .i64 kind, .int .i64 id] 38)) _
  have hb2 : W1.heap[w.heap.size + 1 + 1]? = some (.cells #[.bool false, .slice none 0 0] 34 (0, 0)) := by rw [hW1]; simpa using heap_alloc_new ((w.alloc (.cells #[.bool up, .slice A l.length c] 34)).alloc (.cells #[.int .i64 kind, .int .i64 id] 38)) (.cells #[.bool false, .slice none 0 0] 34)
  have HB0 := Aside0.mk hb0
  have HB1 := Aside0.mk hb1
  have HB2 := Aside0.mk hb2
  have HS1 := Aside0.mk hs1
  have hl0 : w.heap.size < W1.heap.size := by omega
  have hl1 : w.heap.size + 1 < W1.heap.size := by omega
  have hl2 : w.heap.size + 1 + 1 < W1.heap.size := by omega
  have c00 : W1.cell? ⟨w.heap.size, 0, none⟩ = some (.bool up) := blk_cell hb0 0
  have c01 : W1.cell? ⟨w.heap.size, 1, none⟩ = some (.slice A l.length c) := blk_cell hb0 1
  have c10 : W1.cell? ⟨w.heap.size + 1, 0, none⟩ = some (.int .i64 kind) := blk_cell hb1 0
  have c11 : W1.cell? ⟨w.heap.size + 1, 1, none⟩ = some (.int .i64 id) := blk_cell hb1 1
  have c20 : W1.cell? ⟨w.heap.size + 1 + 1, 0, none⟩ = some (.bool false) := blk_cell hb2 0
  have c21 : W1.cell? ⟨w.heap.size + 1 + 1, 1, none⟩ = some (.slice none 0 0) := blk_cell hb2 1
  have f00 : W1.frozen? ⟨w.heap.size, 0, none⟩ = false := blk_frozen hb0 0
  have f01 : W1.frozen? ⟨w.heap.size, 1, none⟩ = false := blk_frozen hb0 1
  have f20 : W1.frozen? ⟨w.heap.size + 1 + 1, 0, none⟩ = false := blk_frozen hb2 0
  have f21 : W1.frozen? ⟨w.heap.size + 1 + 1, 1, none⟩ = false := blk_frozen hb2 1
  clear hs1 hb0 hb1 hb2
  have hu34 := Try.underlying34
  have hu38 := Try.underlying38
  have hF0 : F b := HA.out.1
  go_enter Try.func20, Try.ntmps20
  go_wp2_with fail
  rw [← hW1]
  clear hW1
  have HR1 := Aside0.mk (R_upd HR.out HU1.out (fun _ _ _ h => h))
  refine (rwait_calls W1 _ up _ l id HR1.out (by omega)).mono ?_
  rintro e w2 ⟨v2, rfl, hr2, hu2⟩
  obtain ⟨l', hl'⟩ : ∃ l', l' = waitL up l id := ⟨_, rfl⟩
  rw [← hl'] at hr2
  have HL := Aside0.mk hl'
  clear hl'
  obtain ⟨A2, c2, rfl⟩ := Kd.R_slice hr2
  have hz2 := hu2.size
  have HB12 := Aside0.mk ((hu2.block hl1 (fun h => h)).trans HB1.out)
  have HB22 := Aside0.mk ((hu2.block hl2 (fun h => h)).trans HB2.out)
  have HR2 := Aside0.mk hr2
  have HU2 := Aside0.mk (HU1.out.step hu2)
  have e11 : w2.cell? ⟨w.heap.size + 1, 1, none⟩ = some (.int .i64 id) := blk_cell HB12.out 1
  have e20 : w2.cell? ⟨w.heap.size + 1 + 1, 0, none⟩ = some (.bool false) := blk_cell HB22.out 0
  have e21 : w2.cell? ⟨w.heap.size + 1 + 1, 1, none⟩ = some (.slice none 0 0) := blk_cell HB22.out 1
  have g20 : w2.frozen? ⟨w.heap.size + 1 + 1, 0, none⟩ = false := blk_frozen HB22.out 0
  have g21 : w2.frozen? ⟨w.heap.size + 1 + 1, 1, none⟩ = false := blk_frozen HB22.out 1
  have hl12 : w.heap.size + 1 < w2.heap.size := by omega
  have hl22 : w.heap.size + 1 + 1 < w2.heap.size := by omega
  clear c00 c01 c10 c11 c20 c21 f00 f01 f20 f21 hu2 hr2 HU1 HB0 HB1 HB2 HR1
  go_wp2_with fail
  obtain ⟨W3, hW3⟩ : ∃ W3, W3 = w2.alloc (.cells #[.bool up, .slice A2 l'.length c2] 34) := ⟨_, rfl⟩
  rw [← hW3]
  have hs3 : W3.heap.size = w2.heap.size + 1 := by rw [hW3]; simp
  have HB13 : Aside0 (W3.heap[w.heap.size + 1]? = some (.cells #[.int .i64 kind, .int .i64 id] 38 (0, 0))) := ⟨by rw [hW3]; exact blk_alloc HB12.out _⟩
  have HB23 : Aside0 (W3.heap[w.heap.size + 1 + 1]? = some (.cells #[.bool false, .slice none 0 0] 34 (0, 0))) := ⟨by rw [hW3]; exact blk_alloc HB22.out _⟩
  have HB33 : Aside0 (W3.heap[w2.heap.size]? = some (.cells #[.bool up, .slice A2 l'.length c2] 34 (0, 0))) := ⟨by rw [hW3]; exact heap_alloc_new w2 _⟩
  have HR3 : Aside0 (ints.R 3 W3 0 (fun k => (G k ∧ k < w.heap.size) ∨ W1.heap.size ≤ k ∧ k < W3.heap.size) (.slice A2 l'.length c2) l') := ⟨by
    rw [hW3]
    refine Kd.R_mono (Kd.R_bound (Kd.R_alloc HR2.out _)) (fun k hk => ?_)
    have := hk.2.2.1
    exact hk.1.elim .inl (fun h => .inr ⟨h, this⟩)⟩
  have HU3 : Aside0 (Upd w W3 (fun _ => False)) := ⟨by rw [hW3]; exact HU2.out.alloc _⟩
  clear hW3 e11 e20 e21 g20 g21 HB12 HB22 HR2 HU2
  have hq : (up == up) = true := by simp
  have hL := HL.out
  have e11 : W3.cell? ⟨w.heap.size + 1, 1, none⟩ = some (.int .i64 id) := blk_cell HB13.out 1
  have e30 : W3.cell? ⟨w2.heap.size, 0, none⟩ = some (.bool up) := blk_cell HB33.out 0
  have e31 : W3.cell? ⟨w2.heap.size, 1, none⟩ = some (.slice A2 l'.length c2) := blk_cell HB33.out 1
  have e20 : W3.cell? ⟨w.heap.size + 1 + 1, 0, none⟩ = some (.bool false) := blk_cell HB23.out 0
  have e21 : W3.cell? ⟨w.heap.size + 1 + 1, 1, none⟩ = some (.slice none 0 0) := blk_cell HB23.out 1
  have g20 : W3.frozen? ⟨w.heap.size + 1 + 1, 0, none⟩ = false := blk_frozen HB23.out 0
  have g21 : W3.frozen? ⟨w.heap.size + 1 + 1, 1, none⟩ = false := blk_frozen HB23.out 1
  have n1 : w.heap.size + 1 < W3.heap.size := by omega
  have n2 : w.heap.size + 1 + 1 < W3.heap.size := by omega
  have n3 : w2.heap.size < W3.heap.size := by omega
  have n4 : ¬ w.heap.size + 1 = w.heap.size + 1 + 1 := by omega
  have n5 : ¬ w2.heap.size = w.heap.size + 1 + 1 := by omega
  have callR : Aside0 (∀ X cs, Upd W3 X (fun k => k = w.heap.size + 1 + 1) → X.heap[w.heap.size + 1 + 1]? = some (.cells cs 34 (0, 0)) →
      Calls Try.prog 13 #[.pointer (some ⟨b, 0, none⟩), .int .i64 id] X fun e w4 => e = .returned (.bool up) ∧
        Mid2 w (fun k => (F k ∧ k < w.heap.size) ∨ W3.heap.size ≤ k) (fun k => (G k ∧ k < w.heap.size) ∨ W1.heap.size ≤ k ∧ k < W3.heap.size) b up (.slice A2 l'.length c2) l' l' (w.heap.size + 1 + 1) w2.heap.size id cs w4) := ⟨by
    intro X cs hX h2
    have hwX : Upd w X (fun _ => False) := HU3.out.trans hX (fun k hk => .inr (by omega))
    have haX := HA.out.bound.upd0 hwX
    have hzX := hX.size
    refine (wait_calls X _ b up l id haX (by omega)).mono ?_
    rintro e w4 ⟨rfl, ha4, hu4⟩
    rw [← hL] at ha4
    have hz4 := hu4.size
    have hb3 := hX.block n3 n5
    refine ⟨rfl, (hwX.mono (G := fun k => (F k ∧ k < w.heap.size) ∨ W3.heap.size ≤ k) (fun _ h => h.elim)).trans hu4 (fun k hk => .inl (.inl hk)), ha4.mono (fun k hk => hk.elim .inl (fun h => .inr (Nat.le_trans hzX h))), ?_, ?_, ?_, ?_, by omega, by omega⟩
    · refine R_upd' (R_upd' HR3.out hX (fun k hk _ h => ?_)) hu4 (fun k hk _ h => ?_)
      · rcases hk with hk | hk
        · omega
        · have := HS1.out; omega
      · rcases hk with hk | hk
        · exact HD.out k h.1 hk.1
        · omega
    · refine cell_kept (cell_kept e11 hX.kept n4) hu4.kept (by show ¬ (F (w.heap.size + 1) ∧ w.heap.size + 1 < w.heap.size); omega)
    · exact (hu4.block (by omega) (by omega)).trans h2
    · exact (hu4.block (by omega) (by omega)).trans (hb3.trans HB33.out)⟩
  clear hL
  go_region_held3 (fun w' => w'.cell? ⟨w.heap.size + 1, 1, none⟩ = some (.int .i64 id) ∧ w'.cell? ⟨w2.heap.size, 0, none⟩ = some (.bool up) ∧ w'.cell? ⟨w2.heap.size, 1, none⟩ = some (.slice A2 l'.length c2))
    ((refine ⟨?_, ?_, ?_⟩ <;> first | go_keep | exact cell_far2 k0 n4 | exact cell_far2 k1 n5 | exact cell_far2 k2 n5 | exact cell_far2 e11 n4 | exact cell_far2 e30 n5 | exact cell_far2 e31 n5))
    (first
      | (go_at_call 13; refine (callR.out _ #[.bool false, .slice none 0 0] ?_ ?_).mono ?_; (exact (Upd.refl _ _).drew); (exact HB23.out); rintro e w4 ⟨rfl, hM⟩; have k0 := hM.q1; have k1 : w4.cell? ⟨w2.heap.size, 0, none⟩ = some (.bool up) := blk_cell hM.q3 0; have k2 : w4.cell? ⟨w2.heap.size, 1, none⟩ = some (.slice A2 l'.length c2) := blk_cell hM.q3 1; have k3 : w4.cell? ⟨w.heap.size + 1 + 1, 0, none⟩ = some (.bool false) := blk_cell hM.q2 0; have k4 : w4.cell? ⟨w.heap.size + 1 + 1, 1, none⟩ = some (.slice none 0 0) := blk_cell hM.q2 1; have k5 := blk_frozen hM.q2 0; have k6 := blk_frozen hM.q2 1; have M4 := Aside0.mk hM; clear hM)
      | (go_at_call 13; refine (callR.out _ #[.bool up, .slice A2 l'.length c2] ?_ ?_).mono ?_; (exact (((Upd.refl W3 (fun k => k = w.heap.size + 1 + 1)).drew).setCell (.inl rfl) _).setCell (.inl rfl) _); (exact blk_set (blk_set HB23.out 0 _) 1 _); rintro e w4 ⟨rfl, hM⟩; have k0 := hM.q1; have k1 : w4.cell? ⟨w2.heap.size, 0, none⟩ = some (.bool up) := blk_cell hM.q3 0; have k2 : w4.cell? ⟨w2.heap.size, 1, none⟩ = some (.slice A2 l'.length c2) := blk_cell hM.q3 1; have M4 := Aside0.mk hM; clear hM))
  go_wp2_with fail
  refine bodyPost_ret (results_ct rfl _ _ (w.heap.size + 1 + 1) 34 #[.bool up, .slice A2 l'.length c2] (0, 0) _ rfl (blk_set (blk_set M4.out.q2 0 _) 1 _) Try.underlying34 rfl (by kernel_rfl)) rfl ?_
  have hu := ((Upd.refl w4 (fun k => k = w.heap.size + 1 + 1)).setCell (p := ⟨w.heap.size + 1 + 1, 0, none⟩) (.inl rfl) (.bool up)).setCell (p := ⟨w.heap.size + 1 + 1, 1, none⟩) (.inl rfl) (.slice A2 l'.length c2)
  have hs1 := HS1.out
  rw [← HL.out]
  refine ⟨_, _, _, rfl, ⟨M4.out.ev.upd' hu (fun k hk _ h => ?_), R_upd' M4.out.ref hu (fun k hk _ h => ?_), fun k hk hg => ?_⟩, fun k hk => ?_, fun k hk => ?_, (M4.out.upd.mono (G := fun k => F k ∨ w.heap.size ≤ k) (fun k hk => ?_)).trans hu (fun k hk => .inr (by omega)) |>.drop⟩
  · rcases hk with hk | hk <;> omega
  · rcases hk with hk | hk <;> omega
  · rcases hk with hk | hk <;> rcases hg with hg | hg
    · exact HD.out k hk.1 hg.1
    · omega
    · omega
    · omega
  · exact hk.elim (fun h => .inl h.1) (fun h => .inr (by omega))
  · exact hk.elim (fun h => .inl h.1) (fun h => .inr (by omega))
  · exact hk.elim (fun h => .inl h.1) (fun h => .inr (by omega))

set_option maxHeartbeats 2000000 in
theorem do3 (w : World) (F G : Nat → Prop) (b : Nat) (up : Bool) (v : Value) (l : List Int) (kind id : Int) (h : Two w F G b up v l) (hl : l.length ≤ 900000) (hke : wrap64 ((IntKind.u64.wrap kind).tmod 4) = 3) :
    Calls Try.prog 20 #[.pointer (some ⟨b, 0, none⟩), .agg #[.bool up, v], .agg #[.int .i64 kind, .int .i64 id]] w (Done w F G b up (without l id)) := by
  obtain ⟨ha, hr, hd⟩ := h
  obtain ⟨A, c, rfl⟩ := Kd.R_slice hr
  have HA := Aside0.mk ha
  have HR := Aside0.mk hr
  have HD := Aside0.mk hd
  have HC := Aside0.mk (Kd.R_reads' hr).2.2
  have hbl := ha.lt
  clear ha hr hd
  obtain ⟨W1, hW1⟩ : ∃ W1, W1 = (((w.alloc (.cells #[.bool up, .slice A l.length c] 34)).alloc (.cells #[.int .i64 kind, .int .i64 id] 38)).alloc (.cells #[.bool false, .slice none 0 0] 34)) := ⟨_, rfl⟩
  have hs1 : W1.heap.size = w.heap.size + 1 + 1 + 1 := by rw [hW1]; simp
  have HU1 : Aside0 (Upd w W1 (fun _ => False)) := ⟨by rw [hW1]; exact (((Upd.refl _ _).alloc _).alloc _).alloc _⟩
  have hb0 : W1.heap[w.heap.size]? = some (.cells #[.bool up, .slice A l.length c] 34 (0, 0)) := by rw [hW1]; exact blk_alloc (blk_alloc (heap_alloc_new w _) _) _
  have hb1 : W1.heap[w.heap.size + 1]? = some (.cells #[.int .i64 kind, .int .i64 id] 38 (0, 0)) := by rw [hW1]; exact blk_alloc (by simpa using heap_alloc_new (w.alloc (.cells #[.bool up, .slice A l.length c] 34)) (.cells #[.int .i64 kind, .int .i64 id] 38)) _
  have hb2 : W1.heap[w.heap.size + 1 + 1]? = some (.cells #[.bool false, .slice none 0 0] 34 (0, 0)) := by rw [hW1]; simpa using heap_alloc_new ((w.alloc (.cells #[.bool up, .slice A l.length c] 34)).alloc (.cells #[.int .i64 kind, .int .i64 id] 38)) (.cells #[.bool false, .slice none 0 0] 34)
  have HB0 := Aside0.mk hb0
  have HB1 := Aside0.mk hb1
  have HB2 := Aside0.mk hb2
  have HS1 := Aside0.mk hs1
  have hl0 : w.heap.size < W1.heap.size := by omega
  have hl1 : w.heap.size + 1 < W1.heap.size := by omega
  have hl2 : w.heap.size + 1 + 1 < W1.heap.size := by omega
  have c00 : W1.cell? ⟨w.heap.size, 0, none⟩ = some (.bool up) := blk_cell hb0 0
  have c01 : W1.cell? ⟨w.heap.size, 1, none⟩ = some (.slice A l.length c) := blk_cell hb0 1
  have c10 : W1.cell? ⟨w.heap.size + 1, 0, none⟩ = some (.int .i64 kind) := blk_cell hb1 0
  have c11 : W1.cell? ⟨w.heap.size + 1, 1, none⟩ = some (.int .i64 id) := blk_cell hb1 1
  have c20 : W1.cell? ⟨w.heap.size + 1 + 1, 0, none⟩ = some (.bool false) := blk_cell hb2 0
  have c21 : W1.cell? ⟨w.heap.size + 1 + 1, 1, none⟩ = some (.slice none 0 0) := blk_cell hb2 1
  have f00 : W1.frozen? ⟨w.heap.size, 0, none⟩ = false := blk_frozen hb0 0
  have f01 : W1.frozen? ⟨w.heap.size, 1, none⟩ = false := blk_frozen hb0 1
  have f20 : W1.frozen? ⟨w.heap.size + 1 + 1, 0, none⟩ = false := blk_frozen hb2 0
  have f21 : W1.frozen? ⟨w.heap.size + 1 + 1, 1, none⟩ = false := blk_frozen hb2 1
  clear hs1 hb0 hb1 hb2
  have hu34 := Try.underlying34
  have hu38 := Try.underlying38
  have hF0 : F b := HA.out.1
  have HC1 := Aside0.mk (show ints.C W1 A l.length l by rw [hW1]; exact Kd.C_alloc (Kd.C_alloc (Kd.C_alloc HC.out _) _) _)
  go_enter Try.func20, Try.ntmps20
  go_wp2_with fail
  rw [← hW1]
  clear hW1
  refine (HasR.has_calls A c l id W1 HC1.out).mono ?_
  rintro e w' ⟨rfl, rfl⟩
  go_wp2_with fail
  refine (without_calls A c l id W1 HC1.out (by omega)).mono ?_
  rintro e w2 ⟨v2, rfl, hr2, hu2⟩
  obtain ⟨l', hl'⟩ : ∃ l', l' = without l id := ⟨_, rfl⟩
  rw [← hl'] at hr2
  have HL := Aside0.mk hl'
  clear hl'
  obtain ⟨A2, c2, rfl⟩ := Kd.R_slice hr2
  have hz2 := hu2.size
  have hb0 := (hu2.block hl0 (fun h => h)).trans HB0.out
  have e01 : w2.cell? ⟨w.heap.size, 1, none⟩ = some (.slice A l.length c) := blk_cell hb0 1
  have g01 : w2.frozen? ⟨w.heap.size, 1, none⟩ = false := blk_frozen hb0 1
  have HB02 := Aside0.mk hb0
  have HB12 := Aside0.mk ((hu2.block hl1 (fun h => h)).trans HB1.out)
  have HB22 := Aside0.mk ((hu2.block hl2 (fun h => h)).trans HB2.out)
  have HR2 := Aside0.mk hr2
  have HU2 := Aside0.mk (HU1.out.step hu2)
  clear c00 c01 c10 c11 c20 c21 f00 f01 f20 f21 hu2 hr2 hb0 HU1 HB0 HB1 HB2
  go_wp2_with fail
  obtain ⟨W3, hW3⟩ : ∃ W3, W3 = w2.setCell ⟨w.heap.size, 1, none⟩ (.slice A2 l'.length c2) := ⟨_, rfl⟩
  rw [← hW3]
  have hs3 : W3.heap.size = w2.heap.size := by rw [hW3]; simp [World.setCell]
  have HB13 : Aside0 (W3.heap[w.heap.size + 1]? = some (.cells #[.int .i64 kind, .int .i64 id] 38 (0, 0))) := ⟨by rw [hW3]; exact blk_far HB12.out (by show w.heap.size + 1 ≠ w.heap.size; omega) _⟩
  have HB23 : Aside0 (W3.heap[w.heap.size + 1 + 1]? = some (.cells #[.bool false, .slice none 0 0] 34 (0, 0))) := ⟨by rw [hW3]; exact blk_far HB22.out (by show w.heap.size + 1 + 1 ≠ w.heap.size; omega) _⟩
  have HB33 : Aside0 (W3.heap[w.heap.size]? = some (.cells #[.bool up, .slice A2 l'.length c2] 34 (0, 0))) := ⟨by rw [hW3]; exact blk_set HB02.out 1 _⟩
  have HR3 : Aside0 (ints.R 3 W3 0 (fun k => (G k ∧ k < w.heap.size) ∨ W1.heap.size ≤ k ∧ k < W3.heap.size) (.slice A2 l'.length c2) l') := ⟨by
    refine Kd.R_mono (Kd.R_bound (w := W3) (by rw [hW3]; exact Kd.R_far (p := ⟨w.heap.size, 1, none⟩) HR2.out (fun k hk => by show k ≠ w.heap.size; omega) _)) (fun k hk => .inr ⟨hk.1, hk.2.2.1⟩)⟩
  have HU3 : Aside0 (Upd w W3 (fun _ => False)) := ⟨by rw [hW3]; exact HU2.out.setCell (.inr (Nat.le_refl _)) _⟩
  clear hW3 e01 g01 HB02 HB12 HB22 HR2 HU2
  have hq : (hasB l id == hasB l id) = true := by simp
  have hL := HL.out
  have e11 : W3.cell? ⟨w.heap.size + 1, 1, none⟩ = some (.int .i64 id) := blk_cell HB13.out 1
  have e30 : W3.cell? ⟨w.heap.size, 0, none⟩ = some (.bool up) := blk_cell HB33.out 0
  have e31 : W3.cell? ⟨w.heap.size, 1, none⟩ = some (.slice A2 l'.length c2) := blk_cell HB33.out 1
  have e20 : W3.cell? ⟨w.heap.size + 1 + 1, 0, none⟩ = some (.bool false) := blk_cell HB23.out 0
  have e21 : W3.cell? ⟨w.heap.size + 1 + 1, 1, none⟩ = some (.slice none 0 0) := blk_cell HB23.out 1
  have g20 : W3.frozen? ⟨w.heap.size + 1 + 1, 0, none⟩ = false := blk_frozen HB23.out 0
  have g21 : W3.frozen? ⟨w.heap.size + 1 + 1, 1, none⟩ = false := blk_frozen HB23.out 1
  have n0 : w.heap.size < W3.heap.size := by omega
  have n1 : w.heap.size + 1 < W3.heap.size := by omega
  have n2 : w.heap.size + 1 + 1 < W3.heap.size := by omega
  have n4 : ¬ w.heap.size + 1 = w.heap.size + 1 + 1 := by omega
  have n5 : ¬ w.heap.size = w.heap.size + 1 + 1 := by omega
  have callR : Aside0 (∀ X cs, Upd W3 X (fun k => k = w.heap.size + 1 + 1) → X.heap[w.heap.size + 1 + 1]? = some (.cells cs 34 (0, 0)) →
      Calls Try.prog 17 #[.pointer (some ⟨b, 0, none⟩), .int .i64 id] X fun e w4 => e = .returned (.bool (hasB l id)) ∧
        Mid2 w (fun k => (F k ∧ k < w.heap.size) ∨ W3.heap.size ≤ k) (fun k => (G k ∧ k < w.heap.size) ∨ W1.heap.size ≤ k ∧ k < W3.heap.size) b up (.slice A2 l'.length c2) l' l' (w.heap.size + 1 + 1) w.heap.size id cs w4) := ⟨by
    intro X cs hX h2
    have hwX : Upd w X (fun _ => False) := HU3.out.trans hX (fun k hk => .inr (by omega))
    have haX := HA.out.bound.upd0 hwX
    have hzX := hX.size
    refine (drop_calls X _ b up l id haX).mono ?_
    rintro e w4 ⟨rfl, ha4, hu4⟩
    rw [← hL] at ha4
    have hz4 := hu4.size
    have hb3 := hX.block n0 n5
    refine ⟨rfl, (hwX.mono (G := fun k => (F k ∧ k < w.heap.size) ∨ W3.heap.size ≤ k) (fun _ h => h.elim)).trans hu4 (fun k hk => .inl (.inl hk)), ha4.mono (fun k hk => .inl hk), ?_, ?_, ?_, ?_, by omega, by omega⟩
    · refine R_upd' (R_upd' HR3.out hX (fun k hk _ h => ?_)) hu4 (fun k hk _ h => ?_)
      · rcases hk with hk | hk
        · omega
        · have := HS1.out; omega
      · rcases hk with hk | hk
        · exact HD.out k h.1 hk.1
        · omega
    · refine cell_kept (cell_kept e11 hX.kept n4) hu4.kept (by show ¬ (F (w.heap.size + 1) ∧ w.heap.size + 1 < w.heap.size); omega)
    · exact (hu4.block (by omega) (by omega)).trans h2
    · exact (hu4.block (by omega) (by omega)).trans (hb3.trans HB33.out)⟩
  clear hL
  go_region_held3 (fun w' => w'.cell? ⟨w.heap.size + 1, 1, none⟩ = some (.int .i64 id) ∧ w'.cell? ⟨w.heap.size, 0, none⟩ = some (.bool up) ∧ w'.cell? ⟨w.heap.size, 1, none⟩ = some (.slice A2 l'.length c2))
    ((refine ⟨?_, ?_, ?_⟩ <;> first | go_keep | exact cell_far2 k0 n4 | exact cell_far2 k1 n5 | exact cell_far2 k2 n5 | exact cell_far2 e11 n4 | exact cell_far2 e30 n5 | exact cell_far2 e31 n5))
    (first
      | (go_at_call 17; refine (callR.out _ #[.bool false, .slice none 0 0] ?_ ?_).mono ?_; (exact (Upd.refl _ _).drew); (exact HB23.out); rintro e w4 ⟨rfl, hM⟩; have k0 := hM.q1; have k1 : w4.cell? ⟨w.heap.size, 0, none⟩ = some (.bool up) := blk_cell hM.q3 0; have k2 : w4.cell? ⟨w.heap.size, 1, none⟩ = some (.slice A2 l'.length c2) := blk_cell hM.q3 1; have k3 : w4.cell? ⟨w.heap.size + 1 + 1, 0, none⟩ = some (.bool false) := blk_cell hM.q2 0; have k4 : w4.cell? ⟨w.heap.size + 1 + 1, 1, none⟩ = some (.slice none 0 0) := blk_cell hM.q2 1; have k5 := blk_frozen hM.q2 0; have k6 := blk_frozen hM.q2 1; have M4 := Aside0.mk hM; clear hM)
      | (go_at_call 17; refine (callR.out _ #[.bool up, .slice A2 l'.length c2] ?_ ?_).mono ?_; (exact (((Upd.refl W3 (fun k => k = w.heap.size + 1 + 1)).drew).setCell (.inl rfl) _).setCell (.inl rfl) _); (exact blk_set (blk_set HB23.out 0 _) 1 _); rintro e w4 ⟨rfl, hM⟩; have k0 := hM.q1; have k1 : w4.cell? ⟨w.heap.size, 0, none⟩ = some (.bool up) := blk_cell hM.q3 0; have k2 : w4.cell? ⟨w.heap.size, 1, none⟩ = some (.slice A2 l'.length c2) := blk_cell hM.q3 1; have M4 := Aside0.mk hM; clear hM))
  go_wp2_with fail
  refine bodyPost_ret (results_ct rfl _ _ (w.heap.size + 1 + 1) 34 #[.bool up, .slice A2 l'.length c2] (0, 0) _ rfl (blk_set (blk_set M4.out.q2 0 _) 1 _) Try.underlying34 rfl (by kernel_rfl)) rfl ?_
  have hu := ((Upd.refl w4 (fun k => k = w.heap.size + 1 + 1)).setCell (p := ⟨w.heap.size + 1 + 1, 0, none⟩) (.inl rfl) (.bool up)).setCell (p := ⟨w.heap.size + 1 + 1, 1, none⟩) (.inl rfl) (.slice A2 l'.length c2)
  have hs1 := HS1.out
  rw [← HL.out]
  refine ⟨_, _, _, rfl, ⟨M4.out.ev.upd' hu (fun k hk _ h => ?_), R_upd' M4.out.ref hu (fun k hk _ h => ?_), fun k hk hg => ?_⟩, fun k hk => ?_, fun k hk => ?_, (M4.out.upd.mono (G := fun k => F k ∨ w.heap.size ≤ k) (fun k hk => ?_)).trans hu (fun k hk => .inr (by omega)) |>.drop⟩
  · rcases hk with hk | hk <;> omega
  · rcases hk with hk | hk <;> omega
  · rcases hk with hk | hk <;> rcases hg with hg | hg
    · exact HD.out k hk.1 hg.1
    · omega
    · omega
    · omega
  · exact hk.elim (fun h => .inl h.1) (fun h => .inr (by omega))
  · exact hk.elim (fun h => .inl h.1) (fun h => .inr (by omega))
  · exact hk.elim (fun h => .inl h.1) (fun h => .inr (by omega))

/-- Whatever is done. -/
theorem do_calls (kind : Int) : ∃ k : Nat, k < 4 ∧ ∀ (w : World) (F G : Nat → Prop) (b : Nat) (up : Bool) (v : Value) (l : List Int) (id : Int), Two w F G b up v l → l.length ≤ 900000 →
    Calls Try.prog 20 #[.pointer (some ⟨b, 0, none⟩), .agg #[.bool up, v], .agg #[.int .i64 kind, .int .i64 id]] w (Done w F G b (stepE k id up l).1 (stepE k id up l).2) := by
  obtain ⟨k, hk, hke⟩ := u64_mod kind 4 (by omega) (by omega)
  refine ⟨k, by omega, fun w F G b up v l id h hl => ?_⟩
  rcases (by omega : k = 0 ∨ k = 1 ∨ k = 2 ∨ k = 3) with rfl | rfl | rfl | rfl
  · exact do0 w F G b up v l kind id h hl hke
  · exact do1 w F G b up v l kind id h hl hke
  · exact do2 w F G b up v l kind id h hl hke
  · exact do3 w F G b up v l kind id h hl hke
end Go.Proofs.Ytfmbpiimadljkaa.EvDo
