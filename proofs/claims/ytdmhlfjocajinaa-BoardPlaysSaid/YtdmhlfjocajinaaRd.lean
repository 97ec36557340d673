import Derived.Test.YtdmhlfjocajinaaOwn
import Derived.ProofKit
import Derived.OpenShut
import Derived.ChangeOld
import Derived.SizedLaws
set_option linter.unusedVariables false
set_option linter.unusedSimpArgs false
namespace Go.Proofs.Ytdmhlfjocajinaa.Rd
open Go.RowKit Go.Proofs.YtdmhlfjocajinaaW.PrintWords Go.Proofs.Ytdmhlfjocajinaa.Own

/-- Whatever reads as data at type t is told by the kind d, with p. -/
def Opens {α : Type} (P : Program) (t : TypeId) (d : Kd α) (p : α → Prop) : Prop :=
  ∀ (H : Type) (enc : TypeId × Value → H) (w : World) (spare : Nat → Bool) (held : Bool) (fuel : Nat) (cs : List Value) (x : DataW H × List MemPlace), DataW.trod enc P w 0 spare held fuel t cs = some x → ∃ y, d.K w y cs ∧ p y

theorem opens_int {P : Program} {t : TypeId} {k : IntKind} (ht : P.underlying t = some (.int k)) : Opens P t (Kd.int k) (fun n => (Lit.int k n).wf = true) := by
  intro H enc w spare held fuel cs x h
  obtain ⟨n, rfl, _, hw⟩ := DataW.trod_int ht h
  exact ⟨n, rfl, hw⟩
theorem opens_bool {P : Program} {t : TypeId} (ht : P.underlying t = some .bool) : Opens P t Kd.bool (fun _ => True) := by
  intro H enc w spare held fuel cs x h
  obtain ⟨n, rfl, _⟩ := DataW.trod_bool ht h
  exact ⟨n, rfl, trivial⟩
theorem choose_list {α : Type} {n : Nat} {q : Nat → α → Prop} (h : ∀ i, i < n → ∃ y, q i y) : ∃ l : List α, l.length = n ∧ ∀ i y, l[i]? = some y → q i y := by
  induction n with
  | zero => exact ⟨[], rfl, fun i y hy => by simp at hy⟩
  | succ n ih =>
    obtain ⟨l, hl, hq⟩ := ih (fun i hi => h i (by omega))
    obtain ⟨y, hy⟩ := h n (by omega)
    refine ⟨l ++ [y], by simp [hl], fun i z hz => ?_⟩
    rcases Nat.lt_or_ge i l.length with hi | hi
    · rw [List.getElem?_append_left hi] at hz
      exact hq i z hz
    · have hi' : i = l.length := by
        have := (List.getElem?_eq_some_iff.1 hz).1
        simp at this
        omega
      subst hi'
      have : y = z := by simpa using hz
      rw [← this, hl]
      exact hy
theorem opens_slice {P : Program} {t e : TypeId} {α : Type} {d : Kd α} {p : α → Prop} (ht : P.underlying t = some (.slice e)) (hc : P.cellsOf e = d.sz) (he : Opens P e d p) : Opens P t (Kd.slice e d) (fun l => ∀ y ∈ l, p y) := by
  intro H enc w spare held fuel cs x h
  rcases DataW.trod_slice ht h with ⟨rfl, _⟩ | ⟨a, len, cap, elems, rest, n, _, rfl, _, _, hlc, hm, hlen, hel, _, _⟩
  · exact ⟨[], ⟨none, 0, rfl, Nat.le_refl _, Kd.C_nil d w⟩, fun y hy => by simp at hy⟩
  · have hex : ∀ i, i < len → ∃ y, (∃ c, c.length = d.sz ∧ d.K w y c ∧ ∀ j u, c[j]? = some u → w.cell? (a.add (i * d.sz + j)) = some u) ∧ p y := by
      intro i hi
      have h1 := hel i hi
      rw [List.getElem?_eq_getElem (by omega)] at h1
      obtain ⟨c, hc1, hc2⟩ := Option.bind_eq_some_iff.1 h1
      obtain ⟨y, hy, hp⟩ := he _ _ _ _ _ _ _ _ hc2
      obtain ⟨_, hlen', hcell⟩ := World.cells?_some hc1
      refine ⟨y, ⟨c, by rw [hlen', hc], hy, fun j u hu => ?_⟩, hp⟩
      have hj := (List.getElem?_eq_some_iff.1 hu).1
      have h2 := hcell j (by omega)
      rw [hu, Addr.add_add, hc] at h2
      exact h2
    obtain ⟨l, hl, hq⟩ := choose_list hex
    refine ⟨l, ⟨some a, cap, by rw [hl], by omega, rfl, by simp only [maxLen] at hm; omega, fun _ => ⟨a, rfl, fun j y hy => (hq j y hy).1⟩⟩, fun y hy => ?_⟩
    obtain ⟨j, hj⟩ := List.getElem?_of_mem hy
    exact (hq j y hj).2
def OpF {α : Type} (P : Program) (off : Nat) (fs : List Field) (d : Kd α) (p : α → Prop) : Prop :=
  ∀ (H : Type) (enc : TypeId × Value → H) (w : World) (spare : Nat → Bool) (held : Bool) (n : Nat) (cs : List Value) (xs : List (DataW H × List MemPlace)), off + d.sz ≤ cs.length → xs.length = fs.length →
    (∀ (i : Nat) (f : Field), fs[i]? = some f → DataW.trod enc P w 0 spare held n f.type ((cs.drop f.offset).take (P.cellsOf f.type)) = xs[i]?) → ∃ y, d.K w y ((cs.drop off).take d.sz) ∧ p y
theorem opf_one {P : Program} {off : Nat} {f : Field} {α : Type} {d : Kd α} {p : α → Prop} (ho : f.offset = off) (hc : P.cellsOf f.type = d.sz) (h : Opens P f.type d p) : OpF P off [f] d p := by
  intro H enc w spare held n cs xs hl hx hf
  have h0 := hf 0 f rfl
  rw [List.getElem?_eq_getElem (by simp at hx; omega), ho, hc] at h0
  exact h _ _ _ _ _ _ _ _ h0
theorem opf_cons {P : Program} {off : Nat} {f : Field} {fs : List Field} {α β : Type} {d : Kd α} {p : α → Prop} {d' : Kd β} {p' : β → Prop} (ho : f.offset = off) (hc : P.cellsOf f.type = d.sz) (h : Opens P f.type d p)
    (h' : OpF P (off + d.sz) fs d' p') : OpF P off (f :: fs) (Kd.pair d d') (fun y => p y.1 ∧ p' y.2) := by
  intro H enc w spare held n cs xs hl hx hf
  have hl' : off + (d.sz + d'.sz) ≤ cs.length := hl
  have h0 := hf 0 f rfl
  rw [List.getElem?_eq_getElem (by simp at hx; omega), ho, hc] at h0
  obtain ⟨y, hy, hp⟩ := h _ _ _ _ _ _ _ _ h0
  match xs, hx with
  | x0 :: xs, hx =>
    obtain ⟨z, hz, hp'⟩ := h' _ enc _ spare held n cs xs (by omega) (by simpa using hx) (fun i g hg => by simpa using hf (i + 1) g (by simpa using hg))
    refine ⟨(y, z), ⟨_, _, ?_, hy, hz⟩, hp, hp'⟩
    show (cs.drop off).take (d.sz + d'.sz) = _
    rw [List.take_add, List.drop_drop]
theorem opens_struct {P : Program} {t : TypeId} {fs : Array Field} {α : Type} {d : Kd α} {p : α → Prop} (ht : P.underlying t = some (.struct fs)) (hc : P.cellsOf t = d.sz) (h : OpF P 0 fs.toList d p) : Opens P t d p := by
  intro H enc w spare held fuel cs x hx
  obtain ⟨xs, n, _, _, hl, hlen, hf⟩ := DataW.trod_struct ht hx
  obtain ⟨y, hy, hp⟩ := h _ enc _ spare held n cs xs (by omega) (by simpa using hlen) (fun i f hi => hf i f (by simpa using hi))
  refine ⟨y, ?_, hp⟩
  rw [List.drop_zero, List.take_of_length_le (by omega)] at hy
  exact hy
/-- Arrays of two, of three. -/
theorem opens_array2 {P : Program} {t e : TypeId} {α : Type} {d : Kd α} {p : α → Prop} (ht : P.underlying t = some (.array 2 e)) (hc : P.cellsOf e = d.sz) (hct : P.cellsOf t = d.sz + d.sz) (he : Opens P e d p) : Opens P t (Kd.pair d d) (fun y => p y.1 ∧ p y.2) := by
  intro H enc w spare held fuel cs x hx
  obtain ⟨xs, n, _, _, hl, hlen, hf⟩ := DataW.trod_array ht hx
  have h0 := hf 0 (by omega)
  have h1 := hf 1 (by omega)
  rw [List.getElem?_eq_getElem (by omega), hc] at h0 h1
  obtain ⟨y, hy, hp⟩ := he _ _ _ _ _ _ _ _ h0
  obtain ⟨z, hz, hq⟩ := he _ _ _ _ _ _ _ _ h1
  simp only [Nat.zero_mul, List.drop_zero, Nat.one_mul] at hy hz
  refine ⟨(y, z), ⟨_, _, ?_, hy, hz⟩, hp, hq⟩
  have h2 : (cs.drop d.sz).take d.sz = cs.drop d.sz := List.take_of_length_le (by rw [List.length_drop]; omega)
  rw [h2, List.take_append_drop]
theorem opens_array3 {P : Program} {t e : TypeId} {α : Type} {d : Kd α} {p : α → Prop} (ht : P.underlying t = some (.array 3 e)) (hc : P.cellsOf e = d.sz) (hct : P.cellsOf t = d.sz + (d.sz + d.sz)) (he : Opens P e d p) : Opens P t (Kd.pair d (Kd.pair d d)) (fun y => p y.1 ∧ p y.2.1 ∧ p y.2.2) := by
  intro H enc w spare held fuel cs x hx
  obtain ⟨xs, n, _, _, hl, hlen, hf⟩ := DataW.trod_array ht hx
  have h0 := hf 0 (by omega)
  have h1 := hf 1 (by omega)
  have h2 := hf 2 (by omega)
  rw [List.getElem?_eq_getElem (by omega), hc] at h0 h1 h2
  obtain ⟨y, hy, hp⟩ := he _ _ _ _ _ _ _ _ h0
  obtain ⟨z, hz, hq⟩ := he _ _ _ _ _ _ _ _ h1
  obtain ⟨u, hu, hr⟩ := he _ _ _ _ _ _ _ _ h2
  simp only [Nat.zero_mul, List.drop_zero, Nat.one_mul] at hy hz hu
  refine ⟨(y, z, u), ⟨_, _, ?_, hy, ⟨_, _, rfl, hz, hu⟩⟩, hp, hq, hr⟩
  have h2 : (cs.drop (2 * d.sz)).take d.sz = cs.drop (2 * d.sz) := List.take_of_length_le (by rw [List.length_drop]; omega)
  rw [h2, show 2 * d.sz = d.sz + d.sz by omega, ← List.drop_drop, List.take_append_drop, List.take_append_drop]
theorem okWide_array {P : Program} {w : World} {r : Reach} {base : Nat} {t e : TypeId} {n : Nat} {v : Value} (ht : P.underlying t = some (.array n e)) (h : Value.okWide P w r base t v) : ∃ cs, v = .agg cs ∧ cs.size = P.cellsOf t := by
  simp only [Value.okWide, ht] at h
  obtain ⟨cs, h1, h2, _⟩ := h
  exact ⟨cs, h1, h2⟩
/-- A slice that came in, of whatever elements. -/
theorem open_slice {P : Program} {t e : TypeId} {α : Type} {d : Kd α} {p : α → Prop} (ht : P.underlying t = some (.slice e)) (hc : P.cellsOf e = d.sz) (he : Opens P e d p)
    {H : Type} {enc : TypeId × Value → H} {w : World} {spare : Nat → Bool} {held : Bool} {A : Option Addr} {len cap : Nat} {x : DataW H} {ps : List MemPlace} (h : DataW.Trod enc P w 0 spare held t (.slice A len cap) x ps) :
    ∃ l : List α, len = l.length ∧ l.length ≤ cap ∧ d.C w A l.length l ∧ ∀ y ∈ l, p y := by
  obtain ⟨fuel, hf⟩ := h
  obtain ⟨l, ⟨A', c', hv, hl, hr⟩, hp⟩ := opens_slice ht hc he _ _ _ _ _ _ _ _ hf
  simp [Value.cells] at hv
  obtain ⟨rfl, rfl, rfl⟩ := hv
  exact ⟨l, rfl, hl, hr, hp⟩
end Go.Proofs.Ytdmhlfjocajinaa.Rd
