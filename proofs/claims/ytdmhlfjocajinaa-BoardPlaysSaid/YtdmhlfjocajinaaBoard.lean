import Derived.Test.YtdmhlfjocajinaaOwn2
import Derived.Test.YtdmhlfjocajinaaSlU
import Derived.Test.YtdmhlfjocajinaaSlI
import Derived.Test.YtdmhlfjocajinaaDelI
import Derived.Test.YtdmhlfjocajinaaSameU
import Derived.Test.YtdmhlfjocajinaaSameI
import Derived.Deep.RegionHeld3
import Derived.BigQuiet
import Derived.Deep.DrawnRows
set_option linter.unusedVariables false
set_option linter.unusedSimpArgs false
namespace Go.Proofs.Ytdmhlfjocajinaa.Board
attribute [local go_sem ↓] Go.wp_at_zero Go.wp_at_succ
open Go.RowKit Go.Proofs.YtdmhlfjocajinaaW.PrintWords Go.Proofs.Ytdmhlfjocajinaa.Own Go.Proofs.Ytdmhlfjocajinaa.Own2

abbrev uk : Kd Int := Kd.int .u32
abbrev ik : Kd Int := Kd.int .i64

/-- The Board at block b: what is shown, who waits. -/
def At (w : World) (F : Nat → Prop) (b words : Nat) (shown : Bool) (m l : List Int) : Prop :=
  F b ∧ ∃ (A : Option Addr) (c : Nat) (B : Option Addr) (d : Nat) (Fm Fl : Nat → Prop), w.heap[b]? = some (.cells #[.int .i64 words, .bool shown, .slice A m.length c, .slice B l.length d] 68 (0, 0)) ∧
    Kd.V uk 29 w 0 Fm (.slice A m.length c) m ∧ ik.R 3 w 0 Fl (.slice B l.length d) l ∧ (∀ k, Fm k → F k ∧ k ≠ b) ∧ (∀ k, Fl k → F k ∧ k ≠ b) ∧ ∀ k, Fm k → ¬ Fl k
namespace At
variable {w w1 : World} {F G : Nat → Prop} {b words : Nat} {shown : Bool} {m l : List Int}
theorem lt (h : At w F b words shown m l) : b < w.heap.size := by
  obtain ⟨_, _, _, _, _, _, _, hb, _⟩ := h
  exact blk_lt hb
theorem mono (h : At w F b words shown m l) (hs : ∀ k, F k → G k) : At w G b words shown m l := by
  obtain ⟨h0, A, c, B, d, Fm, Fl, hb, hm, hl, h1, h2, h3⟩ := h
  exact ⟨hs _ h0, A, c, B, d, Fm, Fl, hb, hm, hl, fun k hk => ⟨hs _ (h1 k hk).1, (h1 k hk).2⟩, fun k hk => ⟨hs _ (h2 k hk).1, (h2 k hk).2⟩, h3⟩
theorem bound (h : At w F b words shown m l) : At w (fun k => F k ∧ k < w.heap.size) b words shown m l := by
  have hlt := h.lt
  obtain ⟨h0, A, c, B, d, Fm, Fl, hb, hm, hl, h1, h2, h3⟩ := h
  exact ⟨⟨h0, hlt⟩, A, c, B, d, fun k => Fm k ∧ k < w.heap.size, fun k => Fl k ∧ k < w.heap.size, hb, Kd.V_bound hm, Kd.R_mono (Kd.R_bound hl) (fun k hk => ⟨hk.1, hk.2.2.1⟩), fun k hk => ⟨⟨(h1 k hk.1).1, hk.2⟩, (h1 k hk.1).2⟩, fun k hk => ⟨⟨(h2 k hk.1).1, hk.2⟩, (h2 k hk.1).2⟩, fun k hk hk2 => h3 k hk.1 hk2.1⟩
theorem upd' (h : At w G b words shown m l) (hu : Upd w w1 F) (hd : ∀ k, G k → k < w.heap.size → ¬ F k) : At w1 G b words shown m l := by
  have hlt := h.lt
  obtain ⟨h0, A, c, B, d, Fm, Fl, hb, hm, hl, h1, h2, h3⟩ := h
  exact ⟨h0, A, c, B, d, Fm, Fl, (hu.block hlt (hd _ h0 hlt)).trans hb, Kd.V_step hm (fun k hk hlt => hu.block hlt (hd k (h1 k hk).1 hlt)), R_upd' hl hu (fun k hk hlt => hd k (h2 k hk).1 hlt), h1, h2, h3⟩
theorem upd0 (h : At w G b words shown m l) (hu : Upd w w1 (fun _ => False)) : At w1 G b words shown m l := h.upd' hu (fun _ _ _ hk => hk)
end At

theorem new_calls (w : World) (n : Nat) (h1 : 1 ≤ n) (h2 : n ≤ 32) :
    Calls Try.prog 10 #[.int .i64 n] w fun e w' => e = .returned (.tuple #[.pointer (some ⟨w.heap.size, 0, none⟩), .int .i64 0]) ∧ At w' (fun k => k = w.heap.size) w.heap.size n false [] [] ∧ Upd w w' (fun _ => False) := by
  have d1 : decide ((n : Int) < 1) = false := by rw [decide_eq_false_iff_not]; omega
  have d2 : decide ((n : Int) > 32) = false := by rw [decide_eq_false_iff_not]; omega
  go_enter Try.func10, Try.ntmps10
  go_wp2_with fail
  go_ret2
  exact ⟨rfl, ⟨rfl, none, 0, none, 0, fun _ => False, fun _ => False, heap_alloc_new w _, Kd.V_nil _ _ _ _ _, Kd.R_nil _ _ _ _ _, fun _ h => h.elim, fun _ h => h.elim, fun _ h => h.elim⟩, (Upd.refl _ _).alloc _⟩
theorem new_not (w : World) (n : Int) (h : ¬ (1 ≤ n ∧ n ≤ 32)) :
    Calls Try.prog 10 #[.int .i64 n] w fun e w' => e = .returned (.tuple #[.pointer none, .int .i64 2]) ∧ w = w' := by
  by_cases h1 : n < 1
  · have d1 : decide (n < 1) = true := by rw [decide_eq_true_eq]; omega
    go_enter Try.func10, Try.ntmps10
    go_wp2_with fail
    go_ret2
    exact ⟨rfl, rfl⟩
  · have d1 : decide (n < 1) = false := by rw [decide_eq_false_iff_not]; omega
    have d2 : decide (n > 32) = true := by rw [decide_eq_true_eq]; omega
    have d3 : 32 < n := by omega
    clear h
    go_enter Try.func10, Try.ntmps10
    go_wp2_with fail
    go_ret2
    exact ⟨rfl, rfl⟩

theorem shown_no (w : World) (F : Nat → Prop) (b words : Nat) (m l : List Int) (h : At w F b words false m l) :
    Calls Try.prog 13 #[.pointer (some ⟨b, 0, none⟩)] w fun e w' => e = .returned (.tuple #[.slice none 0 0, .bool false]) ∧ w = w' := by
  obtain ⟨hFb, A, c, B, d, Fm, Fl, hb, hm, hl, hFm, hFl, hd⟩ := h
  have hbl := blk_lt hb
  have c0 : w.cell? ⟨b, 0, none⟩ = some (.int .i64 words) := blk_cell hb 0
  have c1 : w.cell? ⟨b, 1, none⟩ = some (.bool false) := blk_cell hb 1
  have c2 : w.cell? ⟨b, 2, none⟩ = some (.slice A m.length c) := blk_cell hb 2
  have c3 : w.cell? ⟨b, 3, none⟩ = some (.slice B l.length d) := blk_cell hb 3
  have f1 := blk_frozen hb 1
  have f2 := blk_frozen hb 2
  have f3 := blk_frozen hb 3
  have HB := Aside0.mk hb
  have HM := Aside0.mk hm
  have HL := Aside0.mk hl
  have HFb := Aside0.mk hFb
  have HFm := Aside0.mk hFm
  have HFl := Aside0.mk hFl
  have HD := Aside0.mk hd
  clear hb hm hl hFb hFm hFl hd
  go_enter Try.func13, Try.ntmps13
  go_wp2_with fail
  go_ret2
  exact ⟨rfl, rfl⟩
theorem shown_yes (w : World) (F : Nat → Prop) (b words : Nat) (m l : List Int) (h : At w F b words true m l) (hml : m.length ≤ 100000) :
    Calls Try.prog 13 #[.pointer (some ⟨b, 0, none⟩)] w fun e w' => ∃ v, e = .returned (.tuple #[v, .bool true]) ∧ uk.R 29 w' 0 (fun k => w.heap.size ≤ k) v m ∧ Upd w w' (fun _ => False) := by
  obtain ⟨hFb, A, c, B, d, Fm, Fl, hb, hm, hl, hFm, hFl, hd⟩ := h
  have hbl := blk_lt hb
  have c0 : w.cell? ⟨b, 0, none⟩ = some (.int .i64 words) := blk_cell hb 0
  have c1 : w.cell? ⟨b, 1, none⟩ = some (.bool true) := blk_cell hb 1
  have c2 : w.cell? ⟨b, 2, none⟩ = some (.slice A m.length c) := blk_cell hb 2
  have c3 : w.cell? ⟨b, 3, none⟩ = some (.slice B l.length d) := blk_cell hb 3
  have f1 := blk_frozen hb 1
  have f2 := blk_frozen hb 2
  have f3 := blk_frozen hb 3
  have HB := Aside0.mk hb
  have HM := Aside0.mk hm
  have HL := Aside0.mk hl
  have HFb := Aside0.mk hFb
  have HFm := Aside0.mk hFm
  have HFl := Aside0.mk hFl
  have HD := Aside0.mk hd
  clear hb hm hl hFb hFm hFl hd
  go_enter Try.func13, Try.ntmps13
  go_wp2_with fail
  refine (SlU.clone_calls A c m w (Kd.V_reads' HM.out).2.2 (by omega)).mono ?_
  rintro e w2 ⟨v, rfl, hr, hu⟩
  have HR := Aside0.mk hr
  have HU := Aside0.mk hu
  clear hr hu
  go_wp2_with fail
  go_ret2
  exact ⟨_, rfl, HR.out, HU.out⟩
theorem waiting_calls (w : World) (F : Nat → Prop) (b words : Nat) (shown : Bool) (m l : List Int) (h : At w F b words shown m l) (hll : l.length ≤ 1000000) :
    Calls Try.prog 17 #[.pointer (some ⟨b, 0, none⟩)] w fun e w' => ∃ v, e = .returned v ∧ ik.R 3 w' 0 (fun k => w.heap.size ≤ k) v l ∧ Upd w w' (fun _ => False) := by
  obtain ⟨hFb, A, c, B, d, Fm, Fl, hb, hm, hl, hFm, hFl, hd⟩ := h
  have hbl := blk_lt hb
  have c0 : w.cell? ⟨b, 0, none⟩ = some (.int .i64 words) := blk_cell hb 0
  have c1 : w.cell? ⟨b, 1, none⟩ = some (.bool shown) := blk_cell hb 1
  have c2 : w.cell? ⟨b, 2, none⟩ = some (.slice A m.length c) := blk_cell hb 2
  have c3 : w.cell? ⟨b, 3, none⟩ = some (.slice B l.length d) := blk_cell hb 3
  have f1 := blk_frozen hb 1
  have f2 := blk_frozen hb 2
  have f3 := blk_frozen hb 3
  have HB := Aside0.mk hb
  have HM := Aside0.mk hm
  have HL := Aside0.mk hl
  have HFb := Aside0.mk hFb
  have HFm := Aside0.mk hFm
  have HFl := Aside0.mk hFl
  have HD := Aside0.mk hd
  clear hb hm hl hFb hFm hFl hd
  go_enter Try.func17, Try.ntmps17
  go_wp2_with fail
  refine (SlI.clone_calls B d l w (Kd.R_reads' HL.out).2.2 (by omega)).mono ?_
  rintro e w2 ⟨v, rfl, hr, hu⟩
  have HR := Aside0.mk hr
  have HU := Aside0.mk hu
  clear hr hu
  go_wp2_with fail
  go_ret
  exact ⟨_, rfl, HR.out, HU.out⟩
theorem clear_calls (w : World) (F : Nat → Prop) (b words : Nat) (shown : Bool) (m l : List Int) (h : At w F b words shown m l) :
    Calls Try.prog 16 #[.pointer (some ⟨b, 0, none⟩)] w fun e w' => e = .returned (.tuple #[]) ∧ At w' F b words false [] l ∧ Upd w w' (fun k => k = b) := by
  obtain ⟨hFb, A, c, B, d, Fm, Fl, hb, hm, hl, hFm, hFl, hd⟩ := h
  have hbl := blk_lt hb
  have c0 : w.cell? ⟨b, 0, none⟩ = some (.int .i64 words) := blk_cell hb 0
  have c1 : w.cell? ⟨b, 1, none⟩ = some (.bool shown) := blk_cell hb 1
  have c2 : w.cell? ⟨b, 2, none⟩ = some (.slice A m.length c) := blk_cell hb 2
  have c3 : w.cell? ⟨b, 3, none⟩ = some (.slice B l.length d) := blk_cell hb 3
  have f1 := blk_frozen hb 1
  have f2 := blk_frozen hb 2
  have f3 := blk_frozen hb 3
  have HB := Aside0.mk hb
  have HM := Aside0.mk hm
  have HL := Aside0.mk hl
  have HFb := Aside0.mk hFb
  have HFm := Aside0.mk hFm
  have HFl := Aside0.mk hFl
  have HD := Aside0.mk hd
  clear hb hm hl hFb hFm hFl hd
  go_enter Try.func16, Try.ntmps16
  go_wp2_with fail
  go_end0
  have hX := ((Upd.refl w (fun k => k = b)).setCell (p := ⟨b, 1, none⟩) (.inl rfl) (.bool false)).setCell (p := ⟨b, 2, none⟩) (.inl rfl) (.slice none 0 0)
  exact ⟨rfl, ⟨HFb.out, none, 0, B, d, fun _ => False, Fl, blk_set (blk_set HB.out 1 _) 2 _, Kd.V_nil _ _ _ _ _, R_upd' HL.out hX (fun k hk _ => (HFl.out k hk).2), fun _ h => h.elim, HFl.out, fun _ h => h.elim⟩, hX⟩
theorem show_long (w : World) (F : Nat → Prop) (b words : Nat) (shown : Bool) (m l : List Int) (A0 : Option Addr) (n c0 : Nat) (h : At w F b words shown m l) (hn : words < n) :
    Calls Try.prog 12 #[.pointer (some ⟨b, 0, none⟩), .slice A0 n c0] w fun e w' => e = .returned (.tuple #[.slice none 0 0, .int .i64 2]) ∧ w = w' := by
  have e1 : decide ((n : Int) > (words : Int)) = true := by rw [decide_eq_true_eq]; omega
  have e2 : (words : Int) < (n : Int) := by omega
  obtain ⟨hFb, A, c, B, d, Fm, Fl, hb, hm, hl, hFm, hFl, hd⟩ := h
  have hbl := blk_lt hb
  have c0 : w.cell? ⟨b, 0, none⟩ = some (.int .i64 words) := blk_cell hb 0
  have c1 : w.cell? ⟨b, 1, none⟩ = some (.bool shown) := blk_cell hb 1
  have c2 : w.cell? ⟨b, 2, none⟩ = some (.slice A m.length c) := blk_cell hb 2
  have c3 : w.cell? ⟨b, 3, none⟩ = some (.slice B l.length d) := blk_cell hb 3
  have f1 := blk_frozen hb 1
  have f2 := blk_frozen hb 2
  have f3 := blk_frozen hb 3
  have HB := Aside0.mk hb
  have HM := Aside0.mk hm
  have HL := Aside0.mk hl
  have HFb := Aside0.mk hFb
  have HFm := Aside0.mk hFm
  have HFl := Aside0.mk hFl
  have HD := Aside0.mk hd
  clear hb hm hl hFb hFm hFl hd
  go_enter Try.func12, Try.ntmps12
  go_wp2_with fail
  go_ret2
  exact ⟨rfl, rfl⟩
theorem show_calls (w : World) (F : Nat → Prop) (b words : Nat) (shown : Bool) (m l : List Int) (A0 : Option Addr) (c0 : Nat) (x : List Int) (h : At w F b words shown m l) (hx : Kd.F uk w (fun k => k ≠ b) A0 x.length x) (hn : x.length ≤ words) (hw : words ≤ 1000) :
    Calls Try.prog 12 #[.pointer (some ⟨b, 0, none⟩), .slice A0 x.length c0] w fun e w' => ∃ v, e = .returned (.tuple #[v, .int .i64 0]) ∧ ik.R 3 w' 0 (fun k => (F k ∧ k ≠ b) ∧ k < w.heap.size) v l ∧ At w' (fun k => k = b ∨ w.heap.size ≤ k) b words true x [] ∧ Upd w w' (fun k => k = b) := by
  have e1 : decide ((x.length : Int) > (words : Int)) = false := by rw [decide_eq_false_iff_not]; omega
  have e2 : ¬ (words : Int) < (x.length : Int) := by omega
  have HX := Aside0.mk hx
  clear hx
  obtain ⟨hFb, A, c, B, d, Fm, Fl, hb, hm, hl, hFm, hFl, hd⟩ := h
  have hbl := blk_lt hb
  have c0 : w.cell? ⟨b, 0, none⟩ = some (.int .i64 words) := blk_cell hb 0
  have c1 : w.cell? ⟨b, 1, none⟩ = some (.bool shown) := blk_cell hb 1
  have c2 : w.cell? ⟨b, 2, none⟩ = some (.slice A m.length c) := blk_cell hb 2
  have c3 : w.cell? ⟨b, 3, none⟩ = some (.slice B l.length d) := blk_cell hb 3
  have f1 := blk_frozen hb 1
  have f2 := blk_frozen hb 2
  have f3 := blk_frozen hb 3
  have HB := Aside0.mk hb
  have HM := Aside0.mk hm
  have HL := Aside0.mk hl
  have HFb := Aside0.mk hFb
  have HFm := Aside0.mk hFm
  have HFl := Aside0.mk hFl
  have HD := Aside0.mk hd
  clear hb hm hl hFb hFm hFl hd
  go_enter Try.func12, Try.ntmps12
  go_wp2_with fail
  obtain ⟨W1, hW1⟩ : ∃ W1, W1 = w.setCell ⟨b, 3, none⟩ (.slice none 0 0) := ⟨_, rfl⟩
  rw [← hW1]
  have HU1 : Aside0 (Upd w W1 (fun k => k = b)) := ⟨by rw [hW1]; exact (Upd.refl w (fun k => k = b)).setCell (p := ⟨b, 3, none⟩) (.inl rfl) _⟩
  have HB1 : Aside0 (W1.heap[b]? = some (.cells #[.int .i64 words, .bool shown, .slice A m.length c, .slice none 0 0] 68 (0, 0))) := ⟨by rw [hW1]; exact blk_set HB.out 3 _⟩
  have hz1 := HU1.out.size
  clear hW1 c0 c1 c2 c3 f1 f2 f3
  refine (SlU.clone_calls A0 c0 x W1 (Kd.F_now (Kd.F_kept HX.out HU1.out.kept (fun k hk h => hk h))) (by omega)).mono ?_
  rintro e w2 ⟨v2, rfl, hr2, hu2⟩
  obtain ⟨A2, c2, rfl⟩ := Kd.R_slice hr2
  have hb2 := (hu2.block (by omega) (fun h => h)).trans HB1.out
  have HB2 := Aside0.mk hb2
  have k1 := (blk_cell hb2 1).trans rfl
  have k2 := (blk_cell hb2 2).trans rfl
  have f1 := blk_frozen hb2 1
  have f2 := blk_frozen hb2 2
  have HR2 := Aside0.mk hr2
  have HU2 := Aside0.mk (HU1.out.step hu2)
  have HL2 := Aside0.mk (R_upd HL.out (HU1.out.step hu2) (fun k hk _ => (HFl.out k hk).2))
  clear hb2 hr2 hu2
  go_wp2_with fail
  go_ret2
  have hX := ((Upd.refl w2 (fun k => k = b)).setCell (p := ⟨b, 1, none⟩) (.inl rfl) (.bool true)).setCell (p := ⟨b, 2, none⟩) (.inl rfl) (.slice A2 x.length c2)
  refine ⟨_, rfl, Kd.R_mono (R_upd' HL2.out hX (fun k hk _ => (HFl.out k hk.1).2)) (fun k hk => ⟨HFl.out k hk.1, hk.2⟩), ⟨.inl rfl, A2, c2, none, 0, fun k => W1.heap.size ≤ k, fun _ => False, blk_set (blk_set HB2.out 1 _) 2 _, Kd.V_kept (Kd.R_V HR2.out) hX.kept (fun k hk h => by omega), Kd.R_nil _ _ _ _ _, fun k hk => ⟨.inr (Nat.le_trans hz1 hk), by omega⟩, fun _ h => h.elim, fun _ _ h => h⟩, HU2.out.trans hX (fun k hk => .inl hk)⟩

/-- Who waits behind a Read. -/
def waitL (shown : Bool) (l : List Int) (id : Int) : List Int := if shown = true then l else if hasB l id = true then l else l ++ [id]
/-- Who waits behind a Drop. -/
def dropL (l : List Int) (id : Int) : List Int := match l.idxOf? id with | some k => l.eraseIdx k | none => l

theorem read_yes (w : World) (F : Nat → Prop) (b words : Nat) (m l : List Int) (id : Int) (h : At w F b words true m l) (hml : m.length ≤ 100000) :
    Calls Try.prog 14 #[.pointer (some ⟨b, 0, none⟩), .int .i64 id] w fun e w' => ∃ v, e = .returned (.tuple #[v, .bool true]) ∧ uk.R 29 w' 0 (fun k => w.heap.size ≤ k) v m ∧ Upd w w' (fun _ => False) := by
  have H := Aside0.mk h
  clear h
  go_enter Try.func14, Try.ntmps14
  go_wp2_with fail
  refine (shown_yes w F b words m l H.out hml).mono ?_
  rintro e w2 ⟨v, rfl, hr, hu⟩
  have HR := Aside0.mk hr
  have HU := Aside0.mk hu
  clear hr hu
  go_wp2_with fail
  go_ret2
  exact ⟨_, rfl, HR.out, HU.out⟩
theorem read_no (w : World) (F : Nat → Prop) (b words : Nat) (m l : List Int) (id : Int) (h : At w F b words false m l) (hll : l.length ≤ 1000000) :
    Calls Try.prog 14 #[.pointer (some ⟨b, 0, none⟩), .int .i64 id] w fun e w' => e = .returned (.tuple #[.slice none 0 0, .bool false]) ∧ At w' (fun k => F k ∨ w.heap.size ≤ k) b words false m (waitL false l id) ∧ Upd w w' F := by
  have H := Aside0.mk h
  obtain ⟨hFb, A, c, B, d, Fm, Fl, hb, hm, hl, hFm, hFl, hd⟩ := h
  have hbl := blk_lt hb
  have c0 : w.cell? ⟨b, 0, none⟩ = some (.int .i64 words) := blk_cell hb 0
  have c1 : w.cell? ⟨b, 1, none⟩ = some (.bool false) := blk_cell hb 1
  have c2 : w.cell? ⟨b, 2, none⟩ = some (.slice A m.length c) := blk_cell hb 2
  have c3 : w.cell? ⟨b, 3, none⟩ = some (.slice B l.length d) := blk_cell hb 3
  have f1 := blk_frozen hb 1
  have f2 := blk_frozen hb 2
  have f3 := blk_frozen hb 3
  have HB := Aside0.mk hb
  have HM := Aside0.mk hm
  have HL := Aside0.mk hl
  have HFb := Aside0.mk hFb
  have HFm := Aside0.mk hFm
  have HFl := Aside0.mk hFl
  have HD := Aside0.mk hd
  clear hb hm hl hFb hFm hFl hd
  cases hin : hasB l id with
  | true =>
    have HIn := Aside0.mk hin
    clear hin
    go_enter Try.func14, Try.ntmps14
    go_wp2_with fail
    refine (shown_no w F b words m l H.out).mono ?_
    rintro e w2 ⟨rfl, rfl⟩
    go_wp2_with fail
    refine (SlI.contains_calls B d l id _ (Kd.R_reads' HL.out).2.2).mono ?_
    rw [HIn.out]
    rintro e w' ⟨rfl, rfl⟩
    go_wp2_with fail
    go_ret2
    refine ⟨rfl, ?_, Upd.refl _ _⟩
    rw [show waitL false l id = l by unfold waitL; rw [HIn.out]; simp]
    exact H.out.mono (fun k hk => .inl hk)
  | false =>
    have HIn := Aside0.mk hin
    clear hin
    go_enter Try.func14, Try.ntmps14
    go_wp2_with fail
    refine (shown_no w F b words m l H.out).mono ?_
    rintro e w2 ⟨rfl, rfl⟩
    go_wp2_with fail
    refine (SlI.contains_calls B d l id _ (Kd.R_reads' HL.out).2.2).mono ?_
    rw [HIn.out]
    rintro e w' ⟨rfl, rfl⟩
    go_wp2_with (at_builtin; refine Kd.R_append ik (w0 := w) 0 rfl (.tmp 30) (.tmp 32) 30 3 (.int .i64 0) 8 rfl Try.underlying30 SlI.info rfl (by decide) (by omega) (.slice B l.length d) l id [.int .i64 id] (fun k => Fl k ∨ w.heap.size ≤ k) (fun _ => False) rfl rfl ?aP (fun _ hk => hk.elim) ?aF ?aO ?aB ?aS ?aL ?_)
    case aP => exact rfl
    case aF => exact fun k hk => .inr hk
    case aO => exact Kd.R_mono HL.out (fun k hk => .inl hk)
    case aB => exact Below.refl _ _
    case aS => omega
    case aL => omega
    intro v1 w1 ho hb1 hg hat
    have hu : Upd w w1 Fl := Upd.of_grown hg (fun k hk => HL.out.1 k hk)
    have hb2 := (hu.block hbl (fun h => (HFl.out b h).2 rfl)).trans HB.out
    obtain ⟨l2, hl2⟩ : ∃ l2, l2 = l ++ [id] := ⟨_, rfl⟩
    rw [← hl2] at ho
    have HL2 := Aside0.mk hl2
    clear hl2
    obtain ⟨A1, c1', rfl⟩ := Kd.R_slice ho
    have d3 := (blk_cell hb2 3).trans rfl
    have g3 := blk_frozen hb2 3
    have HO := Aside0.mk ho
    have HB2 := Aside0.mk hb2
    have HU := Aside0.mk hu
    have HM2 := Aside0.mk (Kd.V_kept (Kd.V_bound HM.out) hu.kept (fun k hk h => HD.out k hk.1 h))
    clear ho hb1 hb2 hu hg hat c0 c1 c2 c3 f1 f2 f3
    go_wp2_with fail
    go_ret2
    rw [show waitL false l id = l2 by rw [HL2.out]; unfold waitL; rw [HIn.out]; simp]
    have hX := (Upd.refl w1 (fun k => k = b)).setCell (p := ⟨b, 3, none⟩) (.inl rfl) (.slice A1 l2.length c1')
    have hnb : ∀ k, w.heap.size ≤ k → ¬ k = b := fun k hk h => by omega
    refine ⟨rfl, ⟨.inl HFb.out, A, c, A1, c1', fun k => Fm k ∧ k < w.heap.size, fun k => Fl k ∨ w.heap.size ≤ k, blk_set HB2.out 3 _, Kd.V_kept HM2.out hX.kept (fun k hk => (HFm.out k hk.1).2), R_upd' HO.out hX (fun k hk _ => hk.elim (fun h => (HFl.out k h).2) (hnb k)), fun k hk => ⟨.inl (HFm.out k hk.1).1, (HFm.out k hk.1).2⟩, fun k hk => hk.elim (fun h => ⟨.inl (HFl.out k h).1, (HFl.out k h).2⟩) (fun h => ⟨.inr h, hnb k h⟩), fun k hk h => h.elim (HD.out k hk.1) (fun h => by have := hk.2; omega)⟩, (HU.out.mono (fun k hk => (HFl.out k hk).1)).trans hX (fun k hk => by rw [hk]; exact .inl HFb.out)⟩

theorem has_idx {l : List Int} {id : Int} (h : hasB l id = true) : ∃ k, k < l.length ∧ SlI.idx l id = (k : Int) ∧ dropL l id = l.eraseIdx k := by
  have h1 := SlI.idx_nonneg l id
  rw [h, decide_eq_true_eq] at h1
  unfold SlI.idx at h1
  unfold SlI.idx dropL
  cases hk : l.idxOf? id with
  | none => rw [hk] at h1; simp at h1
  | some k =>
    rw [List.idxOf?_eq_some_iff] at hk
    exact ⟨k, hk.1, rfl, rfl⟩
theorem has_not {l : List Int} {id : Int} (h : hasB l id = false) : SlI.idx l id = -1 ∧ dropL l id = l := by
  have h1 := SlI.idx_nonneg l id
  rw [h, decide_eq_false_iff_not] at h1
  unfold SlI.idx at h1
  unfold SlI.idx dropL
  cases hk : l.idxOf? id with
  | none => exact ⟨rfl, rfl⟩
  | some k => rw [hk] at h1; simp at h1

theorem drop_no (w : World) (F : Nat → Prop) (b words : Nat) (shown : Bool) (m l : List Int) (id : Int) (h : At w F b words shown m l) (hll : l.length ≤ 1000000) (hin : hasB l id = false) :
    Calls Try.prog 20 #[.pointer (some ⟨b, 0, none⟩), .int .i64 id] w fun e w' => e = .returned (.bool false) ∧ Upd w w' (fun _ => False) := by
  have H := Aside0.mk h
  have HI := Aside0.mk (has_not hin).1
  clear h hin
  go_enter Try.func20, Try.ntmps20
  go_wp2_with fail
  refine (waiting_calls w F b words shown m l H.out hll).mono ?_
  rintro e w2 ⟨v, rfl, hr, hu⟩
  obtain ⟨A2, c2, rfl⟩ := Kd.R_slice hr
  have HR := Aside0.mk (Kd.R_reads' hr).2.2
  have HU := Aside0.mk hu
  clear hr hu
  go_wp2_with fail
  refine (SlI.index_calls A2 c2 l id _ HR.out).mono ?_
  rw [HI.out]
  rintro e w3 ⟨rfl, rfl⟩
  go_wp2_with fail
  go_ret
  exact ⟨rfl, HU.out⟩
set_option maxHeartbeats 1000000 in
theorem drop_yes (w : World) (F : Nat → Prop) (b words : Nat) (shown : Bool) (m l : List Int) (id : Int) (h : At w F b words shown m l) (hll : l.length ≤ 1000000) (hin : hasB l id = true) :
    Calls Try.prog 20 #[.pointer (some ⟨b, 0, none⟩), .int .i64 id] w fun e w' => e = .returned (.bool true) ∧ At w' F b words shown m (dropL l id) ∧ Upd w w' F := by
  have H := Aside0.mk h
  obtain ⟨k, hkl, hki, hkd⟩ := has_idx hin
  rw [hkd]
  have HI := Aside0.mk hki
  clear hki hin hkd h
  go_enter Try.func20, Try.ntmps20
  go_wp2_with fail
  refine (waiting_calls w F b words shown m l H.out hll).mono ?_
  rintro e w2 ⟨v, rfl, hr, hu⟩
  obtain ⟨A2, c2, rfl⟩ := Kd.R_slice hr
  have HR := Aside0.mk (Kd.R_reads' hr).2.2
  have HU := Aside0.mk hu
  have h := H.out.bound.upd0 hu
  have hzw := hu.size
  clear hr hu
  go_wp2_with fail
  refine (SlI.index_calls A2 c2 l id _ HR.out).mono ?_
  rw [HI.out]
  rintro e w3 ⟨rfl, rfl⟩
  obtain ⟨hFb, A, c, B, d, Fm, Fl, hb, hm, hl, hFm, hFl, hd⟩ := h
  obtain ⟨g, rfl⟩ : ∃ g, B = some ⟨g, 0, none⟩ := by
    obtain ⟨g, cap, hv, _⟩ := Kd.R_form hl (by omega)
    injection hv with h1 _ _
    exact ⟨g, h1⟩
  have hbl := blk_lt hb
  have c3 := (blk_cell hb 3).trans rfl
  have HB := Aside0.mk hb
  have HM := Aside0.mk hm
  have HL := Aside0.mk hl
  have HF := Aside0.mk (show F b ∧ (∀ k, Fm k → F k ∧ k ≠ b) ∧ (∀ k, Fl k → F k ∧ k ≠ b) ∧ ∀ k, Fm k → ¬ Fl k from ⟨hFb.1, fun k hk => ⟨(hFm k hk).1.1, (hFm k hk).2⟩, fun k hk => ⟨(hFl k hk).1.1, (hFl k hk).2⟩, hd⟩)
  have hFg : Fl g := hl.1 g rfl
  have HFg := Aside0.mk hFg
  have hgb : ¬ b = g := fun h => (hFl g hFg).2 h.symm
  clear hb hm hl hFb hFm hFl hd hFg HR H
  go_wp2_with fail
  refine (DelI.del_calls g d k l w2 Fl HL.out hkl).mono ?_
  rintro e w4 ⟨rfl, hr4, hu4⟩
  have hb4 := (hu4.block hbl hgb).trans HB.out
  have d3 := (blk_cell hb4 3).trans rfl
  have g3 := blk_frozen hb4 3
  have HB4 := Aside0.mk hb4
  have HR4 := Aside0.mk hr4
  have HU4 := Aside0.mk ((HU.out.mono (G := F) (fun _ h => h.elim)).trans hu4 (fun k hk => .inl (by rw [hk]; exact (HF.out.2.2.1 g HFg.out).1)))
  have HM4 := Aside0.mk (Kd.V_kept HM.out hu4.kept (fun k hk h => HF.out.2.2.2 k hk (h ▸ HFg.out)))
  clear hb4 hr4 hu4 c3
  go_wp2_with fail
  go_ret
  have hX := (Upd.refl w4 (fun k => k = b)).setCell (p := ⟨b, 3, none⟩) (.inl rfl) (.slice (some ⟨g, 0, none⟩) (l.length - 1) d)
  have hel : (l.eraseIdx k).length = l.length - 1 := List.length_eraseIdx_of_lt hkl
  refine ⟨rfl, ⟨HF.out.1, A, c, some ⟨g, 0, none⟩, d, Fm, Fl, by rw [hel]; exact blk_set HB4.out 3 _, Kd.V_kept HM4.out hX.kept (fun k hk => (HF.out.2.1 k hk).2), by rw [hel]; exact R_upd' HR4.out hX (fun k hk _ => (HF.out.2.2.1 k hk).2), HF.out.2.1, HF.out.2.2.1, HF.out.2.2.2⟩, HU4.out.trans hX (fun k hk => .inl (by rw [hk]; exact HF.out.1))⟩

set_option maxHeartbeats 1000000 in
theorem clone_calls (w : World) (F : Nat → Prop) (b words : Nat) (shown : Bool) (m l : List Int) (h : At w F b words shown m l) (hml : m.length ≤ 100000) (hll : l.length ≤ 100000) :
    Calls Try.prog 29 #[.pointer (some ⟨b, 0, none⟩)] w fun e w' => ∃ b', e = .returned (.pointer (some ⟨b', 0, none⟩)) ∧ w.heap.size ≤ b' ∧ At w' (fun k => w.heap.size ≤ k) b' words shown m l ∧ Upd w w' (fun _ => False) := by
  obtain ⟨hFb, A, c, B, d, Fm, Fl, hb, hm, hl, hFm, hFl, hd⟩ := h
  have hbl := blk_lt hb
  have c0 : w.cell? ⟨b, 0, none⟩ = some (.int .i64 words) := blk_cell hb 0
  have c1 : w.cell? ⟨b, 1, none⟩ = some (.bool shown) := blk_cell hb 1
  have c2 : w.cell? ⟨b, 2, none⟩ = some (.slice A m.length c) := blk_cell hb 2
  have c3 : w.cell? ⟨b, 3, none⟩ = some (.slice B l.length d) := blk_cell hb 3
  have f1 := blk_frozen hb 1
  have f2 := blk_frozen hb 2
  have f3 := blk_frozen hb 3
  have HB := Aside0.mk hb
  have HM := Aside0.mk hm
  have HL := Aside0.mk hl
  have HFb := Aside0.mk hFb
  have HFm := Aside0.mk hFm
  have HFl := Aside0.mk hFl
  have HD := Aside0.mk hd
  clear hb hm hl hFb hFm hFl hd
  have HMC := Aside0.mk (Kd.V_reads' HM.out).2.2
  have HLC := Aside0.mk (Kd.R_reads' HL.out).2.2
  go_enter Try.func29, Try.ntmps29
  go_wp2_with fail
  go_region_held3 (fun w' => w'.cell? ⟨b, 0, none⟩ = some (.int .i64 words) ∧ w'.cell? ⟨b, 1, none⟩ = some (.bool shown) ∧ w'.cell? ⟨b, 2, none⟩ = some (.slice A m.length c) ∧ w'.cell? ⟨b, 3, none⟩ = some (.slice B l.length d)) (first | exact ⟨k0, k1, k2, k3⟩ | exact ⟨k4, k5, k6, k7⟩ | go_keep)
    (first
      | (go_at_call 11; refine (SlU.clone_calls A c m w.drew (Kd.C_drew HMC.out) (by omega)).mono ?_; rintro e w2 ⟨v2, rfl, hr2, hu2⟩; obtain ⟨A2, c2', rfl⟩ := Kd.R_slice hr2; have HU2 := Aside0.mk ((Upd.refl w (fun _ => False)).drew.step hu2); have k0 := cell_upd0 HU2.out c0; have k1 := cell_upd0 HU2.out c1; have k2 := cell_upd0 HU2.out c2; have k3 := cell_upd0 HU2.out c3; have HR2 := Aside0.mk hr2; have HLC2 := Aside0.mk (Kd.C_below HLC.out (HU2.out.to_below (Nat.le_refl _) (fun _ h => h.elim))); have hz2 := hu2.size; clear hr2 hu2)
      | (go_at_call 30; refine (SlI.clone_calls B d l w2 HLC2.out (by omega)).mono ?_; rintro e w3 ⟨v3, rfl, hr3, hu3⟩; obtain ⟨A3, c3', rfl⟩ := Kd.R_slice hr3; have k4 := cell_upd0 hu3 k0; have k5 := cell_upd0 hu3 k1; have k6 := cell_upd0 hu3 k2; have k7 := cell_upd0 hu3 k3; have HR3 := Aside0.mk hr3; have HR23 := Aside0.mk (R_upd HR2.out hu3 (fun _ _ _ h => h)); have HU3 := Aside0.mk (HU2.out.step hu3); have hz3 := hu3.size; clear hr3 hu3))
  go_wp2_with fail
  go_ret
  have hz : w.heap.size ≤ w3.heap.size := HU3.out.size
  refine ⟨_, rfl, hz, ⟨hz, A2, c2', A3, c3', fun k => w.heap.size ≤ k ∧ k < w2.heap.size, fun k => w2.heap.size ≤ k ∧ k < w3.heap.size, heap_alloc_new w3 _, Kd.V_alloc (Kd.V_mono (Kd.R_V HR23.out) (fun k hk => ⟨hk.1, hk.2⟩)) _, Kd.R_alloc (Kd.R_mono (Kd.R_bound HR3.out) (fun k hk => ⟨hk.1, hk.2.2.1⟩)) _, fun k hk => ⟨hk.1, by have := hk.2; omega⟩, fun k hk => ⟨by have := hk.1; have := HU2.out.size; omega, by have := hk.2; omega⟩, fun k hk h => by have := hk.2; have := h.1; omega⟩, (HU3.out.alloc _)⟩
theorem same_nil (w : World) (b : Nat) :
    Calls Try.prog 27 #[.pointer (some ⟨b, 0, none⟩), .pointer none] w fun e w' => e = .returned (.bool false) ∧ w = w' := by
  go_enter Try.func27, Try.ntmps27
  go_wp2_with fail
  go_ret
  exact ⟨rfl, rfl⟩
/-- The same state? -/
def sameB (words words' : Nat) (shown shown' : Bool) (m m' l l' : List Int) : Bool := decide (words = words') && (shown == shown') && eqB m m' && eqB l l'
set_option maxHeartbeats 2000000 in
theorem same_calls (w : World) (F F' : Nat → Prop) (b b' words words' : Nat) (shown shown' : Bool) (m m' l l' : List Int) (h : At w F b words shown m l) (h' : At w F' b' words' shown' m' l') :
    Calls Try.prog 27 #[.pointer (some ⟨b, 0, none⟩), .pointer (some ⟨b', 0, none⟩)] w fun e w' => e = .returned (.bool (sameB words words' shown shown' m m' l l')) ∧ ∃ q, w' = w.drewN q := by
  obtain ⟨hFb, A, c, B, d, Fm, Fl, hb, hm, hl, hFm, hFl, hd⟩ := h
  have hbl := blk_lt hb
  have c0 : w.cell? ⟨b, 0, none⟩ = some (.int .i64 words) := blk_cell hb 0
  have c1 : w.cell? ⟨b, 1, none⟩ = some (.bool shown) := blk_cell hb 1
  have c2 : w.cell? ⟨b, 2, none⟩ = some (.slice A m.length c) := blk_cell hb 2
  have c3 : w.cell? ⟨b, 3, none⟩ = some (.slice B l.length d) := blk_cell hb 3
  have f1 := blk_frozen hb 1
  have f2 := blk_frozen hb 2
  have f3 := blk_frozen hb 3
  have HB := Aside0.mk hb
  have HM := Aside0.mk hm
  have HL := Aside0.mk hl
  have HFb := Aside0.mk hFb
  have HFm := Aside0.mk hFm
  have HFl := Aside0.mk hFl
  have HD := Aside0.mk hd
  clear hb hm hl hFb hFm hFl hd
  obtain ⟨_, A', c', B', d', _, _, hb', hm', hl', _, _, _⟩ := h'
  have c0' : w.cell? ⟨b', 0, none⟩ = some (.int .i64 words') := blk_cell hb' 0
  have c1' : w.cell? ⟨b', 1, none⟩ = some (.bool shown') := blk_cell hb' 1
  have c2' : w.cell? ⟨b', 2, none⟩ = some (.slice A' m'.length c') := blk_cell hb' 2
  have c3' : w.cell? ⟨b', 3, none⟩ = some (.slice B' l'.length d') := blk_cell hb' 3
  have HMC := Aside0.mk (Kd.V_reads' HM.out).2.2
  have HLC := Aside0.mk (Kd.R_reads' HL.out).2.2
  have HMC' := Aside0.mk (Kd.V_reads' hm').2.2
  have HLC' := Aside0.mk (Kd.R_reads' hl').2.2
  clear hb' hm' hl'
  by_cases e0 : words = words'
  · subst e0
    have e0 : ((words : Int) == (words : Int)) = true := by simp
    by_cases e1 : shown = shown'
    · subst e1
      have e1 : (shown == shown) = true := by simp
      cases e2 : eqB m m' with
      | true =>
        have HE : Aside0 (sameB words words shown shown m m' l l' = eqB l l') := ⟨by simp [sameB, e2]⟩
        obtain ⟨y, hy⟩ : ∃ y, y = eqB l l' := ⟨_, rfl⟩
        rw [← hy] at HE
        rw [HE.out]
        have HY := Aside0.mk hy
        have HE2 := Aside0.mk e2
        clear e2 hy HE
        have SMU : Aside0 (∀ n, Calls Try.prog 15 #[.slice A m.length c, .slice A' m'.length c'] (w.drewN n) fun e w' => e = .returned (.bool (true)) ∧ ∃ q, w' = (w.drewN n).drewN q) := ⟨fun n => by rw [← HE2.out]; exact SameU.same_calls A c m A' c' m' _ (Kd.C_drewN HMC.out _) (Kd.C_drewN HMC'.out _)⟩
        have SMI : Aside0 (∀ n, Calls Try.prog 18 #[.slice B l.length d, .slice B' l'.length d'] (w.drewN n) fun e w' => e = .returned (.bool (y)) ∧ ∃ q, w' = (w.drewN n).drewN q) := ⟨fun n => by rw [HY.out]; exact SameI.same_calls B d l B' d' l' _ (Kd.C_drewN HLC.out _) (Kd.C_drewN HLC'.out _)⟩
        go_enter Try.func27, Try.ntmps27
        go_wp2_with fail
        go_quiet (first | (go_at_call 15; exact Calls.quiet_of (SMU.out _)) | (go_at_call 18; exact Calls.quiet_of (SMI.out _)))
        go_wp2_with fail
        go_ret
        exact ⟨rfl, _, rfl⟩
      | false =>
        have HE : Aside0 (sameB words words shown shown m m' l l' = false) := ⟨by simp [sameB, e2]⟩
        rw [HE.out]
        have HE2 := Aside0.mk e2
        have HY : Aside0 (eqB l l' = eqB l l') := ⟨rfl⟩
        clear e2 HE
        have SMU : Aside0 (∀ n, Calls Try.prog 15 #[.slice A m.length c, .slice A' m'.length c'] (w.drewN n) fun e w' => e = .returned (.bool (false)) ∧ ∃ q, w' = (w.drewN n).drewN q) := ⟨fun n => by rw [← HE2.out]; exact SameU.same_calls A c m A' c' m' _ (Kd.C_drewN HMC.out _) (Kd.C_drewN HMC'.out _)⟩
        have SMI : Aside0 (∀ n, Calls Try.prog 18 #[.slice B l.length d, .slice B' l'.length d'] (w.drewN n) fun e w' => e = .returned (.bool (eqB l l')) ∧ ∃ q, w' = (w.drewN n).drewN q) := ⟨fun n => by rw [HY.out]; exact SameI.same_calls B d l B' d' l' _ (Kd.C_drewN HLC.out _) (Kd.C_drewN HLC'.out _)⟩
        go_enter Try.func27, Try.ntmps27
        go_wp2_with fail
        go_quiet (first | (go_at_call 15; exact Calls.quiet_of (SMU.out _)) | (go_at_call 18; exact Calls.quiet_of (SMI.out _)))
        go_wp2_with fail
        go_ret
        exact ⟨rfl, _, rfl⟩
    · have HE : Aside0 (sameB words words shown shown' m m' l l' = false) := ⟨by simp [sameB, e1]⟩
      have e1 : (shown == shown') = false := by simpa using e1
      rw [HE.out]
      have HE2 : Aside0 (eqB m m' = eqB m m') := ⟨rfl⟩
      have HY : Aside0 (eqB l l' = eqB l l') := ⟨rfl⟩
      clear HE
      have SMU : Aside0 (∀ n, Calls Try.prog 15 #[.slice A m.length c, .slice A' m'.length c'] (w.drewN n) fun e w' => e = .returned (.bool (eqB m m')) ∧ ∃ q, w' = (w.drewN n).drewN q) := ⟨fun n => by rw [← HE2.out]; exact SameU.same_calls A c m A' c' m' _ (Kd.C_drewN HMC.out _) (Kd.C_drewN HMC'.out _)⟩
      have SMI : Aside0 (∀ n, Calls Try.prog 18 #[.slice B l.length d, .slice B' l'.length d'] (w.drewN n) fun e w' => e = .returned (.bool (eqB l l')) ∧ ∃ q, w' = (w.drewN n).drewN q) := ⟨fun n => by rw [HY.out]; exact SameI.same_calls B d l B' d' l' _ (Kd.C_drewN HLC.out _) (Kd.C_drewN HLC'.out _)⟩
      go_enter Try.func27, Try.ntmps27
      go_wp2_with fail
      go_quiet (first | (go_at_call 15; exact Calls.quiet_of (SMU.out _)) | (go_at_call 18; exact Calls.quiet_of (SMI.out _)))
      go_wp2_with fail
      go_ret
      exact ⟨rfl, _, rfl⟩
  · have HE : Aside0 (sameB words words' shown shown' m m' l l' = false) := ⟨by simp [sameB, e0]⟩
    have e0 : ((words : Int) == (words' : Int)) = false := by rw [beq_eq_false_iff_ne]; omega
    rw [HE.out]
    have HE2 : Aside0 (eqB m m' = eqB m m') := ⟨rfl⟩
    have HY : Aside0 (eqB l l' = eqB l l') := ⟨rfl⟩
    clear HE
    have SMU : Aside0 (∀ n, Calls Try.prog 15 #[.slice A m.length c, .slice A' m'.length c'] (w.drewN n) fun e w' => e = .returned (.bool (eqB m m')) ∧ ∃ q, w' = (w.drewN n).drewN q) := ⟨fun n => by rw [← HE2.out]; exact SameU.same_calls A c m A' c' m' _ (Kd.C_drewN HMC.out _) (Kd.C_drewN HMC'.out _)⟩
    have SMI : Aside0 (∀ n, Calls Try.prog 18 #[.slice B l.length d, .slice B' l'.length d'] (w.drewN n) fun e w' => e = .returned (.bool (eqB l l')) ∧ ∃ q, w' = (w.drewN n).drewN q) := ⟨fun n => by rw [HY.out]; exact SameI.same_calls B d l B' d' l' _ (Kd.C_drewN HLC.out _) (Kd.C_drewN HLC'.out _)⟩
    go_enter Try.func27, Try.ntmps27
    go_wp2_with fail
    go_quiet (first | (go_at_call 15; exact Calls.quiet_of (SMU.out _)) | (go_at_call 18; exact Calls.quiet_of (SMI.out _)))
    go_wp2_with fail
    go_ret
    exact ⟨rfl, _, rfl⟩
end Go.Proofs.Ytdmhlfjocajinaa.Board
