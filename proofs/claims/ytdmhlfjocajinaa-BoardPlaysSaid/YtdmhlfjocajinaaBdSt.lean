import Derived.Test.YtdmhlfjocajinaaBdOp2
import Derived.Test.YtdmhlfjocajinaaBdMade
set_option linter.unusedVariables false
set_option linter.unusedSimpArgs false
namespace Go.Proofs.Ytdmhlfjocajinaa.BdSt
open Go.RowKit Go.Proofs.YtdmhlfjocajinaaW.PrintWords Go.Proofs.Ytdmhlfjocajinaa.Own Go.Proofs.Ytdmhlfjocajinaa.Own2 Go.Proofs.Ytdmhlfjocajinaa.Own3 Go.Proofs.Ytdmhlfjocajinaa.Board Go.Proofs.Ytdmhlfjocajinaa.BdRef Go.Proofs.Ytdmhlfjocajinaa.BdOp Go.Proofs.Ytdmhlfjocajinaa.BdMade Go.Proofs.Ytdmhlfjocajinaa.BdOp2

/-- A round of plays: the code's Board at b (state sc, mc, qc), the document's in its box d (state sh, m, q), the act in its box a. -/
structure St (w wc : World) (G GL : Nat → Prop) (b d a n : Nat) (sc : Bool) (mc qc : List Int) (sh : Bool) (m q : List Int) (Am : Option Addr) (cm : Nat) (Al : Option Addr) (cl : Nat) (kd id : Int) (x : List Int) (A : Option Addr) (c : Nat) : Prop where
  hat : At wc G b n sc mc qc
  hd : wc.heap[d]? = some (.cells #[.int .i64 n, .slice Am m.length cm, .bool sh, .slice Al q.length cl] 50 (0, 0))
  ha : wc.heap[a]? = some (.cells #[.int .u8 kd, .int .i64 id, .slice A x.length c] 52 (0, 0))
  hm : Kd.F uk wc (fun k => k < w.heap.size) Am m.length m
  hmc : m.length ≤ cm
  hq : ik.R 3 wc 0 GL (.slice Al q.length cl) q
  hx : Kd.F uk wc (fun k => k < w.heap.size) A x.length x
  hG : ∀ k, G k → w.heap.size ≤ k ∧ k ≠ d ∧ k ≠ a ∧ ¬ GL k ∧ k < wc.heap.size
  hGL : ∀ k, GL k → w.heap.size ≤ k ∧ k ≠ d ∧ k ≠ a ∧ k < wc.heap.size
  hda : d ≠ a
  hdw : w.heap.size ≤ d
  haw : w.heap.size ≤ a
  hb : Below w.heap.size w wc
namespace St
variable {w wc w' : World} {G GL F : Nat → Prop} {b b' d a n : Nat} {sc sc' : Bool} {mc qc mc' qc' : List Int} {sh sh' : Bool} {m q m' q' : List Int} {Am : Option Addr} {cm : Nat} {Al : Option Addr} {cl : Nat} {Am' : Option Addr} {cm' : Nat} {Al' : Option Addr} {cl' : Nat} {kd id : Int} {x : List Int} {A : Option Addr} {c : Nat}
theorem foreign (h : St w wc G GL b d a n sc mc qc sh m q Am cm Al cl kd id x A c) (hu : Upd wc w' F) (hF : ∀ k, F k → w.heap.size ≤ k ∧ k ≠ d ∧ k ≠ a ∧ ¬ GL k ∧ ¬ G k) : St w w' G GL b d a n sc mc qc sh m q Am cm Al cl kd id x A c where
  hat := h.hat.upd' hu (fun k hk _ hf => (hF k hf).2.2.2.2 hk)
  hd := (hu.block (blk_lt h.hd) (fun hf => (hF d hf).2.1 rfl)).trans h.hd
  ha := (hu.block (blk_lt h.ha) (fun hf => (hF a hf).2.2.1 rfl)).trans h.ha
  hm := Kd.F_kept h.hm hu.kept (fun k hk hf => by have := (hF k hf).1; omega)
  hmc := h.hmc
  hq := R_upd' h.hq hu (fun k hk _ hf => (hF k hf).2.2.2.1 hk)
  hx := Kd.F_kept h.hx hu.kept (fun k hk hf => by have := (hF k hf).1; omega)
  hG := fun k hk => by
    have := h.hG k hk
    exact ⟨this.1, this.2.1, this.2.2.1, this.2.2.2.1, Nat.lt_of_lt_of_le this.2.2.2.2 hu.size⟩
  hGL := fun k hk => by
    have := h.hGL k hk
    exact ⟨this.1, this.2.1, this.2.2.1, Nat.lt_of_lt_of_le this.2.2.2 hu.size⟩
  hda := h.hda
  hdw := h.hdw
  haw := h.haw
  hb := h.hb.upd (below_size h.hb) hu (fun k hf => (hF k hf).1)
theorem upd0 (h : St w wc G GL b d a n sc mc qc sh m q Am cm Al cl kd id x A c) (hu : Upd wc w' (fun _ => False)) : St w w' G GL b d a n sc mc qc sh m q Am cm Al cl kd id x A c := h.foreign hu (fun _ hf => hf.elim)
theorem code (h : St w wc G GL b d a n sc mc qc sh m q Am cm Al cl kd id x A c) (hat : At w' (fun k => G k ∨ wc.heap.size ≤ k) b' n sc' mc' qc') (hu : Upd wc w' G) : St w w' (fun k => (G k ∨ wc.heap.size ≤ k) ∧ k < w'.heap.size) GL b' d a n sc' mc' qc' sh m q Am cm Al cl kd id x A c where
  hat := hat.bound
  hd := (hu.block (blk_lt h.hd) (fun hf => (h.hG d hf).2.1 rfl)).trans h.hd
  ha := (hu.block (blk_lt h.ha) (fun hf => (h.hG a hf).2.2.1 rfl)).trans h.ha
  hm := Kd.F_kept h.hm hu.kept (fun k hk hf => by have := (h.hG k hf).1; omega)
  hmc := h.hmc
  hq := R_upd' h.hq hu (fun k hk _ hf => (h.hG k hf).2.2.2.1 hk)
  hx := Kd.F_kept h.hx hu.kept (fun k hk hf => by have := (h.hG k hf).1; omega)
  hG := fun k hk => by
    rcases hk with ⟨hk | hk, hlt⟩
    · have := h.hG k hk
      exact ⟨this.1, this.2.1, this.2.2.1, this.2.2.2.1, hlt⟩
    · have hd := blk_lt h.hd
      have ha := blk_lt h.ha
      have hz := below_size h.hb
      exact ⟨by omega, by omega, by omega, fun hg => by have := (h.hGL k hg).2.2.2; omega, hlt⟩
  hGL := fun k hk => by
    have := h.hGL k hk
    exact ⟨this.1, this.2.1, this.2.2.1, Nat.lt_of_lt_of_le this.2.2.2 hu.size⟩
  hda := h.hda
  hdw := h.hdw
  haw := h.haw
  hb := h.hb.upd (below_size h.hb) hu (fun k hf => (h.hG k hf).1)
theorem clone (h : St w wc G GL b d a n sc mc qc sh m q Am cm Al cl kd id x A c) (hat : At w' (fun k => wc.heap.size ≤ k) b' n sc' mc' qc') (hu : Upd wc w' (fun _ => False)) : St w w' (fun k => wc.heap.size ≤ k ∧ k < w'.heap.size) GL b' d a n sc' mc' qc' sh m q Am cm Al cl kd id x A c :=
  have X := h.code (b' := b') (hat.mono (fun k hk => .inr hk)) (hu.mono (fun k hk => hk.elim))
  { X with hat := hat.bound, hG := fun k hk => X.hG k ⟨.inr hk.1, hk.2⟩ }
/-- The box is written anew. -/
theorem put {GL5 : Nat → Prop} (h : St w w' G GL b d a n sc mc qc sh m q Am cm Al cl kd id x A c) (hm : Kd.F uk w' (fun k => k < w.heap.size) Am' m'.length m') (hmc : m'.length ≤ cm') (hq : ik.R 3 w' 0 GL5 (.slice Al' q'.length cl') q') (hGL5 : ∀ k, GL5 k → w.heap.size ≤ k ∧ k ≠ d ∧ k ≠ a ∧ ¬ G k) :
    St w ((((w'.setCell ⟨d, 0, none⟩ (.int .i64 n)).setCell ⟨d, 1, none⟩ (.slice Am' m'.length cm')).setCell ⟨d, 2, none⟩ (.bool sh')).setCell ⟨d, 3, none⟩ (.slice Al' q'.length cl')) G (fun k => GL5 k ∧ k < w'.heap.size) b d a n sc mc qc sh' m' q' Am' cm' Al' cl' kd id x A c := by
  have hX : Upd w' _ (fun k => k = d) := upd4 w' w' (fun k => k = d) (Upd.refl _ _) d (.inl rfl) (.int .i64 n) (.slice Am' m'.length cm') (.bool sh') (.slice Al' q'.length cl')
  have hz := below_size h.hb
  have hdw := h.hdw
  have haw := h.haw
  exact {
    hat := h.hat.upd' hX (fun k hk _ hf => (h.hG k hk).2.1 hf)
    hd := set4 h.hd rfl
    ha := (hX.block (blk_lt h.ha) (fun hf => h.hda hf.symm)).trans h.ha
    hm := Kd.F_kept hm hX.kept (fun k hk hf => by omega)
    hmc := hmc
    hq := R_upd hq hX (fun k hk _ hf => (hGL5 k hk).2.1 hf)
    hx := Kd.F_kept h.hx hX.kept (fun k hk hf => by omega)
    hG := fun k hk => by
      have := h.hG k hk
      exact ⟨this.1, this.2.1, this.2.2.1, fun e => (hGL5 k e.1).2.2.2 hk, Nat.lt_of_lt_of_le this.2.2.2.2 hX.size⟩
    hGL := fun k hk => by
      have := hGL5 k hk.1
      exact ⟨this.1, this.2.1, this.2.2.1, Nat.lt_of_lt_of_le hk.2 hX.size⟩
    hda := h.hda
    hdw := h.hdw
    haw := h.haw
    hb := h.hb.upd hz hX (fun k hf => by omega) }
/-- Rows of the document's that came behind the world w4 are no block of the code's. -/
theorem rows {w4 : World} (h : St w w' G GL b d a n sc mc qc sh m q Am cm Al cl kd id x A c) (h4 : St w w4 G GL b d a n sc mc qc sh m q Am cm Al cl kd id x A c) : ∀ k, (GL k ∨ w4.heap.size ≤ k) → w.heap.size ≤ k ∧ k ≠ d ∧ k ≠ a ∧ ¬ G k := fun k hk => by
  have h1 := blk_lt h4.hd
  have h2 := blk_lt h4.ha
  have h3 := below_size h4.hb
  rcases hk with e | e
  · have := h.hGL k e
    exact ⟨this.1, this.2.1, this.2.2.1, fun hg => (h.hG k hg).2.2.2.1 e⟩
  · exact ⟨by omega, by omega, by omega, fun hg => by have := (h4.hG k hg).2.2.2.2; omega⟩
theorem two (h : St w wc G GL b d a n sh m q sh m q Am cm Al cl kd id x A c) : Two w.heap.size w wc b d n sh m q :=
  ⟨G, GL, Am, cm, Al, cl, h.hat, h.hd, Nat.le_refl _, h.hm, h.hmc, h.hq, fun k hk => ⟨(h.hG k hk).1, (h.hG k hk).2.1, (h.hG k hk).2.2.2.1, (h.hG k hk).2.2.2.2⟩, fun k hk => ⟨(h.hGL k hk).1, (h.hGL k hk).2.1, (h.hGL k hk).2.2.2⟩, h.hdw, h.hb⟩
end St
end Go.Proofs.Ytdmhlfjocajinaa.BdSt
