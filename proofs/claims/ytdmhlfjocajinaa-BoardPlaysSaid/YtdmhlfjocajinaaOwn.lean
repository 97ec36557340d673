import Derived.Test.YtdmhlfjocajinaaProg
import Derived.Test.YtdmhlfjocajinaaWKept
import Derived.Test.YtdmhlfjocajinaaWMore
set_option linter.unusedVariables false
set_option linter.unusedSimpArgs false
namespace Go.Proofs.Ytdmhlfjocajinaa.Own
open Go.RowKit Go.Proofs.YtdmhlfjocajinaaW.PrintWords

/-- Does it stand there? (A name that the walk does not open.) -/
def hasB (l : List Int) (x : Int) : Bool := l.contains x
/-- min, max of two whole numbers, by names that the walk does not open. -/
def mn2 (a b : Int) : Int := if b < a then b else a
def mx2 (a b : Int) : Int := if a < b then b else a
theorem min2_mn (k k' : IntKind) (x y : Int) : Builtin.min2 (.int k x) (.int k' y) = pure (.int k (mn2 x y)) := by simp only [Builtin.min2, mn2]
theorem max2_mx (k k' : IntKind) (x y : Int) : Builtin.max2 (.int k x) (.int k' y) = pure (.int k (mx2 x y)) := by simp only [Builtin.max2, mx2, gt_iff_lt]
theorem min_two (ats : Array TypeId) (ty : TypeId) (a b : Value) : Builtin.min_ ats ty #[a, b] = (Builtin.min2 a b >>= fun s => pure s) := by simp only [Builtin.min_, List.foldlM_cons, List.foldlM_nil]
theorem max_two (ats : Array TypeId) (ty : TypeId) (a b : Value) : Builtin.max_ ats ty #[a, b] = (Builtin.max2 a b >>= fun s => pure s) := by simp only [Builtin.max_, List.foldlM_cons, List.foldlM_nil]
theorem mn2_le (a b : Int) : mn2 a b ≤ a ∧ mn2 a b ≤ b ∧ (mn2 a b = a ∨ mn2 a b = b) := by unfold mn2; split <;> omega
theorem mx2_le (a b : Int) : a ≤ mx2 a b ∧ b ≤ mx2 a b ∧ (mx2 a b = a ∨ mx2 a b = b) := by unfold mx2; split <;> omega
/-- Are they the same? -/
def eqB (a b : List Int) : Bool := decide (a = b)

/-- From w to w' only blocks of F have turned; new blocks may have come; the streams are as they were. -/
structure Upd (w w' : World) (F : Nat → Prop) : Prop where
  os : w'.os = w.os
  tape : w'.tape = w.tape
  output : w'.output = w.output
  kept : Kept w w' F

namespace Upd
variable {w w1 w2 : World} {F G : Nat → Prop}
theorem refl (w : World) (F : Nat → Prop) : Upd w w F := ⟨rfl, rfl, rfl, Kept.refl _ _⟩
theorem mono (h : Upd w w1 F) (hs : ∀ k, F k → G k) : Upd w w1 G := ⟨h.os, h.tape, h.output, h.kept.mono hs⟩
theorem trans (h : Upd w w1 F) (k : Upd w1 w2 G) (hs : ∀ k, G k → F k ∨ w.heap.size ≤ k) : Upd w w2 F :=
  ⟨k.os.trans h.os, k.tape.trans h.tape, k.output.trans h.output, h.kept.then_ k.kept hs⟩
theorem size (h : Upd w w1 F) : w.heap.size ≤ w1.heap.size := h.kept.1
theorem block (h : Upd w w1 F) {k : Nat} (hk : k < w.heap.size) (hn : ¬ F k) : w1.heap[k]? = w.heap[k]? := h.kept.2 k hk hn
theorem of_below (h : Below w.heap.size w w1) (F : Nat → Prop) : Upd w w1 F := ⟨h.os, h.tape, h.output, Kept.of_below h F⟩
theorem of_grown {row : Option Nat} (h : w.grownBy w1 row) (hr : ∀ k, row = some k → F k) : Upd w w1 F :=
  ⟨h.os, h.tape, h.output, ⟨h.size, fun i hi hn => h.block i hi (fun e => hn (hr i e.symm))⟩⟩
theorem alloc (h : Upd w w1 F) (o : Obj) : Upd w (w1.alloc o) F := h.trans (of_below (below_alloc (Below.refl _ _) o) (fun _ => False)) (fun _ hk => hk.elim)
theorem drew (h : Upd w w1 F) : Upd w w1.drew F := ⟨h.os, h.tape, h.output, h.kept⟩
theorem drewN (h : Upd w w1 F) (n : Nat) : Upd w (w1.drewN n) F := ⟨h.os, h.tape, h.output, h.kept⟩
theorem setCell (h : Upd w w1 F) {p : Addr} (hp : F p.block ∨ w.heap.size ≤ p.block) (u : Value) : Upd w (w1.setCell p u) F := ⟨h.os, h.tape, h.output, h.kept.setCell hp u⟩
theorem grown {row : Option Nat} (h : Upd w w1 F) (hg : w1.grownBy w2 row) (hr : ∀ k, row = some k → F k ∨ w.heap.size ≤ k) : Upd w w2 F :=
  h.trans (of_grown (F := fun k => row = some k) hg (fun _ hk => hk)) hr
theorem below (h : Upd w w1 F) (hb : Below w1.heap.size w1 w2) : Upd w w2 F := h.trans (of_below hb (fun _ => False)) (fun _ hk => hk.elim)
theorem drawn (h : Upd w w1 F) (hd : Drawn0 w1 w2) : Upd w w2 F := h.below hd.below
theorem of_q (h : ∃ q, w1 = w.drewN q) : Upd w w1 (fun _ => False) := by
  obtain ⟨q, rfl⟩ := h
  exact (refl _ _).drewN q
/-- What is new needs no word. -/
theorem drop (h : Upd w w1 (fun k => F k ∨ w.heap.size ≤ k)) : Upd w w1 F := ⟨h.os, h.tape, h.output, ⟨h.kept.1, fun i hi hn => h.kept.2 i hi (fun hk => hk.elim hn (fun h => by omega))⟩⟩
/-- A step that turns nothing old. -/
theorem step (h : Upd w w1 F) (k : Upd w1 w2 (fun _ => False)) : Upd w w2 F := h.trans k (fun _ hk => hk.elim)
/-- Seen from the law's begin: nothing old has turned. -/
theorem to_below (h : Upd w w1 F) {B : Nat} (hB : B ≤ w.heap.size) (hF : ∀ k, F k → B ≤ k) : Below B w w1 :=
  ⟨h.os, h.tape, h.output, h.size, fun k hk => h.kept.2 k (Nat.lt_of_lt_of_le hk hB) (fun hf => by have := hF k hf; omega)⟩
end Upd

theorem _root_.Go.RowKit.Below.upd {B : Nat} {w w1 w2 : World} {F : Nat → Prop} (h : Below B w w1) (hB : B ≤ w1.heap.size) (k : Upd w1 w2 F) (hF : ∀ k, F k → B ≤ k) : Below B w w2 :=
  h.trans (k.to_below hB hF)

/-- An object at block b: its cells (of type t) tell x; its blocks lie in F. -/
def Ob {α : Type} (d : Kd α) (t : Nat) (w : World) (F : Nat → Prop) (b : Nat) (x : α) : Prop :=
  F b ∧ ∃ cs, w.heap[b]? = some (.cells cs.toArray t (0, 0)) ∧ d.M w 0 (fun k => F k ∧ k ≠ b) x cs
namespace Ob
variable {α : Type} {d : Kd α} {t : Nat} {w w1 : World} {F G : Nat → Prop} {b : Nat} {x : α}
theorem lt (h : Ob d t w F b x) : b < w.heap.size := by
  obtain ⟨_, cs, hb, _⟩ := h
  exact blk_lt hb
theorem mono (h : Ob d t w F b x) (hs : ∀ k, F k → G k) : Ob d t w G b x := by
  obtain ⟨h0, cs, hb, hm⟩ := h
  exact ⟨hs _ h0, cs, hb, d.M_mono (fun k hk => ⟨hs _ hk.1, hk.2⟩) hm⟩
theorem bound (h : Ob d t w F b x) : Ob d t w (fun k => F k ∧ k < w.heap.size) b x := by
  have hl := h.lt
  obtain ⟨h0, cs, hb, hm⟩ := h
  exact ⟨⟨h0, hl⟩, cs, hb, d.M_mono (fun k hk => ⟨⟨hk.1.1, hk.2.2.1⟩, hk.1.2⟩) (d.M_bound hm)⟩
theorem move (h : Ob d t w F b x) (hm : ∀ k, F k → k < w.heap.size → w1.heap[k]? = w.heap[k]?) : Ob d t w1 F b x := by
  have hl := h.lt
  obtain ⟨h0, cs, hb, hr⟩ := h
  exact ⟨h0, cs, (hm _ h0 hl).trans hb, Kd.M_step hr (fun k hk hlt => hm k hk.1 hlt)⟩
theorem upd (h : Ob d t w G b x) (hu : Upd w w1 F) (hd : ∀ k, G k → k < w.heap.size → ¬ F k) : Ob d t w1 (fun k => G k ∧ k < w.heap.size) b x :=
  h.bound.move (fun k hk hlt => hu.block hlt (hd k hk.1 hlt))
theorem upd' (h : Ob d t w G b x) (hu : Upd w w1 F) (hd : ∀ k, G k → k < w.heap.size → ¬ F k) : Ob d t w1 G b x :=
  (h.upd hu hd).mono (fun _ hk => hk.1)
theorem upd0 (h : Ob d t w G b x) (hu : Upd w w1 (fun _ => False)) : Ob d t w1 G b x := h.upd' hu (fun _ _ _ hk => hk)
theorem alloc (h : Ob d t w G b x) (o : Obj) : Ob d t (w.alloc o) G b x := h.upd0 ((Upd.refl _ _).alloc o)
end Ob
theorem R_upd {α : Type} {d : Kd α} {e : Nat} {w w1 : World} {F G : Nat → Prop} {v : Value} {xs : List α} (h : d.R e w 0 G v xs) (hu : Upd w w1 F) (hd : ∀ k, G k → k < w.heap.size → ¬ F k) : d.R e w1 0 (fun k => G k ∧ k < w.heap.size) v xs :=
  Kd.R_mono (Kd.R_step (Kd.R_bound h) (fun k hk hlt => hu.block hlt (hd k hk.1 hlt))) (fun k hk => ⟨hk.1, hk.2.2.1⟩)
theorem R_upd' {α : Type} {d : Kd α} {e : Nat} {w w1 : World} {F G : Nat → Prop} {v : Value} {xs : List α} (h : d.R e w 0 G v xs) (hu : Upd w w1 F) (hd : ∀ k, G k → k < w.heap.size → ¬ F k) : d.R e w1 0 G v xs :=
  Kd.R_mono (R_upd h hu hd) (fun _ hk => hk.1)
theorem R_upd0 {α : Type} {d : Kd α} {e : Nat} {w w1 : World} {G : Nat → Prop} {v : Value} {xs : List α} (h : d.R e w 0 G v xs) (hu : Upd w w1 (fun _ => False)) : d.R e w1 0 G v xs := R_upd' h hu (fun _ _ _ hk => hk)
/-- 'int(uint64(a) % uint64(m))'. -/
theorem u64_mod (a m : Int) (h0 : 0 < m) (h1 : m ≤ 4611686018427387904) : ∃ k : Nat, (k : Int) < m ∧ wrap64 ((IntKind.u64.wrap a).tmod m) = (k : Int) := by
  have hn : 0 ≤ IntKind.u64.wrap a := by
    unfold IntKind.wrap
    simp [IntKind.signed]
    omega
  rw [Int.tmod_eq_emod_of_nonneg hn]
  have h2 := Int.emod_nonneg (IntKind.u64.wrap a) (b := m) (by omega)
  have h3 := Int.emod_lt_of_pos (IntKind.u64.wrap a) h0
  generalize IntKind.u64.wrap a % m = r at h2 h3
  refine ⟨r.toNat, by omega, ?_⟩
  unfold wrap64
  omega
theorem C_take {α : Type} {d : Kd α} {w : World} {A : Option Addr} {l : List α} (h : d.C w A l.length l) (n : Nat) : d.C w A (l.take n).length (l.take n) := by
  obtain ⟨h1, h2, h3⟩ := h
  refine ⟨rfl, by rw [List.length_take]; omega, fun hn => ?_⟩
  rw [List.length_take] at hn
  obtain ⟨ad, he, hc⟩ := h3 (by omega)
  refine ⟨ad, he, fun j p hj => hc j p ?_⟩
  rw [List.getElem?_take] at hj
  split at hj
  · exact hj
  · cases hj
/-- 'x[:min(len(x), m)]'. -/
theorem cut_min {P : Program} (t e : TypeId) (ht : P.underlying t = some (.slice e)) {z : Value} {size bytes : Nat} (hi : (P.info? e).map (fun i => (i.zero, i.size, i.bytes)) = some (some z, size, bytes)) {α : Type} (A : Option Addr) (xs : List α) (c : Nat) (m : Nat) (M : Int) (hM : M = (m : Int)) (hc : xs.length ≤ c) :
    ∀ W : World, (Instr.slice t (.slice A xs.length c) none (some (.int .i64 (mn2 (xs.length : Int) M))) none).run P W = .ok (.slice A (xs.take m).length c) W := by
  intro W
  subst hM
  obtain ⟨i, hi', _⟩ := Option.map_eq_some_iff.1 hi
  have h := cut_to t e .i64 ht hi' A xs.length c (mn2 (xs.length : Int) (m : Int)) (by unfold mn2; split <;> omega) (by unfold mn2; split <;> omega) hc W
  rw [h, List.length_take]
  congr 2
  unfold mn2
  split <;> omega
theorem cell_upd0 {w w1 : World} {a : Addr} {v : Value} (hu : Upd w w1 (fun _ => False)) (h : w.cell? a = some v) : w1.cell? a = some v := cell_kept h hu.kept (fun h => h)
theorem cell_far1 {W : World} {g i p j : Nat} {v x : Value} (h : W.cell? ⟨g, i, none⟩ = some v) (hne : g ≠ p) : (W.setCell ⟨p, j, none⟩ x).cell? ⟨g, i, none⟩ = some v :=
  (World.cell?_of_block (w := W) (a := ⟨g, i, none⟩) (Below.heap_setCell W ⟨p, j, none⟩ x g hne)).trans h
theorem cell_far2 {W : World} {g i p j j' : Nat} {v x y : Value} (h : W.cell? ⟨g, i, none⟩ = some v) (hne : g ≠ p) : ((W.setCell ⟨p, j, none⟩ x).setCell ⟨p, j', none⟩ y).cell? ⟨g, i, none⟩ = some v :=
  cell_far1 (cell_far1 h hne) hne
theorem cell_afar1 {W : World} {a : Addr} {p j : Nat} {v x : Value} (h : W.cell? a = some v) (hne : a.block ≠ p) : (W.setCell ⟨p, j, none⟩ x).cell? a = some v :=
  (World.cell?_of_block (w := W) (a := a) (Below.heap_setCell W ⟨p, j, none⟩ x a.block hne)).trans h
theorem cell_afar2 {W : World} {a : Addr} {p j j' : Nat} {v x y : Value} (h : W.cell? a = some v) (hne : a.block ≠ p) : ((W.setCell ⟨p, j, none⟩ x).setCell ⟨p, j', none⟩ y).cell? a = some v :=
  cell_afar1 (cell_afar1 h hne) hne
/-- An element of two whole numbers, its cells as the walk spells them. -/
theorem ints2_at {k1 k2 : IntKind} {w : World} {A : Option Addr} {n : Nat} {xs : List (Int × Int)} (h : (Kd.pair (Kd.int k1) (Kd.int k2)).C w A n xs) (j : Nat) (hj : j < xs.length) :
    ∃ ad, A = some ad ∧ w.cell? (ad.add (j * 2)) = some (.int k1 xs[j].1) ∧ w.cell? ⟨(ad.add (j * 2)).block, (ad.add (j * 2)).off + 1, none⟩ = some (.int k2 xs[j].2) := by
  obtain ⟨h1, h2, h3⟩ := h
  obtain ⟨ad, he, hc⟩ := h3 (by omega)
  obtain ⟨c, hl, ⟨c0, c1, hcc, h0, h1'⟩, hcell⟩ := hc j _ (List.getElem?_eq_getElem hj)
  have e0 : c0 = [.int k1 xs[j].1] := h0
  have e1 : c1 = [.int k2 xs[j].2] := h1'
  subst e0 e1 hcc
  have a0 := hcell 0 _ rfl
  have a1 := hcell 1 _ rfl
  refine ⟨ad, he, a0, ?_⟩
  have e2 : (Kd.pair (Kd.int k1) (Kd.int k2)).sz = 2 := rfl
  rw [e2, add_field ad (j * 2) 1 (by omega)] at a1
  exact a1
/-- A literal of numbers: a row of its own. -/
theorem R_litN (k : IntKind) (W : World) (e : TypeId) (xs : List Int) (hm : xs.length ≤ 9223372036854775807) :
    (Kd.int k).R e (W.alloc (.cells (encs (Value.int k) xs).toArray e)) 0 (fun b => b = W.heap.size) (.slice (some ⟨W.heap.size, 0, none⟩) xs.length xs.length) xs :=
  Kd.R_of_own (own_lit_of W 0 e xs (Nat.zero_le _) hm) (fun b hb => by simpa [Value.ownBlock] using hb.symm)
theorem C_litN (k : IntKind) (W : World) (e : TypeId) (xs : List Int) (hm : xs.length ≤ 9223372036854775807) :
    (Kd.int k).C (W.alloc (.cells (encs (Value.int k) xs).toArray e)) (some ⟨W.heap.size, 0, none⟩) xs.length xs :=
  (Kd.R_reads' (R_litN k W e xs hm)).2.2
end Go.Proofs.Ytdmhlfjocajinaa.Own
