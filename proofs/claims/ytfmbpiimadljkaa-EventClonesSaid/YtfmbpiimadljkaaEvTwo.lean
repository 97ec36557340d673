import Derived.Test.YtfmbpiimadljkaaEvDo
set_option linter.unusedVariables false
set_option linter.unusedSimpArgs false
namespace Go.Proofs.Ytfmbpiimadljkaa.EvTwo
open Go.RowKit Go.Proofs.YtfmbpiimadljkaaW.PrintWords Go.Proofs.Ytfmbpiimadljkaa.Own Go.Proofs.Ytfmbpiimadljkaa.Ev Go.Proofs.Ytfmbpiimadljkaa.SlI Go.Proofs.Ytfmbpiimadljkaa.EvDrop Go.Proofs.Ytfmbpiimadljkaa.EvRef Go.Proofs.Ytfmbpiimadljkaa.EvCl Go.Proofs.Ytfmbpiimadljkaa.EvDo

theorem step_len (k : Nat) (id : Int) (up : Bool) (l : List Int) : (stepE k id up l).2.length ≤ l.length + 1 := by
  unfold stepE
  split
  · simp
  · split
    · simp
    · split
      · unfold waitL
        split
        · simp
        · split <;> simp
      · have := without_len l id
        show (without l id).length ≤ _
        omega

/-- An Event at block b, the document's in the variable at block p. -/
def LF (wr : World) (b p : Nat) (up : Bool) (l : List Int) (A : Option Addr) (c : Nat) (F G : Nat → Prop) : Prop :=
  Two wr F G b up (.slice A l.length c) l ∧ wr.heap[p]? = some (.cells #[.bool up, .slice A l.length c] 34 (0, 0)) ∧ ¬ F p ∧ ¬ G p

theorem LF.upd {wr w1 : World} {b p : Nat} {up : Bool} {l : List Int} {A : Option Addr} {c : Nat} {F G S : Nat → Prop} (h : LF wr b p up l A c F G) (hu : Upd wr w1 S) (hF : ∀ k, F k → k < wr.heap.size → ¬ S k) (hG : ∀ k, G k → k < wr.heap.size → ¬ S k) (hp : ¬ S p) :
    LF w1 b p up l A c (fun k => F k ∧ k < wr.heap.size) (fun k => G k ∧ k < wr.heap.size) :=
  ⟨⟨h.1.1.upd hu hF, R_upd h.1.2.1 hu hG, fun k hk hg => h.1.2.2 k hk.1 hg.1⟩, (hu.block (blk_lt h.2.1) hp).trans h.2.1, fun hk => h.2.2.1 hk.1, fun hk => h.2.2.2 hk.1⟩
theorem LF.upd0 {wr w1 : World} {b p : Nat} {up : Bool} {l : List Int} {A : Option Addr} {c : Nat} {F G : Nat → Prop} (h : LF wr b p up l A c F G) (hu : Upd wr w1 (fun _ => False)) : LF w1 b p up l A c (fun k => F k ∧ k < wr.heap.size) (fun k => G k ∧ k < wr.heap.size) :=
  h.upd hu (fun _ _ _ h => h) (fun _ _ _ h => h) (fun h => h)

theorem LF.do (kd id : Int) (up : Bool) (l : List Int) (hl : l.length ≤ 900000) : ∃ up2 l2, l2.length ≤ l.length + 1 ∧ ∀ (wr : World) (b p : Nat) (A : Option Addr) (c : Nat) (F G : Nat → Prop), LF wr b p up l A c F G → ∀ X, Upd wr X (fun _ => False) →
    Calls Try.prog 20 #[.pointer (some ⟨b, 0, none⟩), .agg #[.bool up, .slice A l.length c], .agg #[.int .i64 kd, .int .i64 id]] X (fun e w4 => ∃ A2 c2, e = .returned (.tuple #[.agg #[.bool up2, .slice A2 l2.length c2], .bool true]) ∧ w4.heap[p]? = some (.cells #[.bool up, .slice A l.length c] 34 (0, 0)) ∧
      ∃ F2 G2, LF ((w4.setCell ⟨p, 0, none⟩ (.bool up2)).setCell ⟨p, 1, none⟩ (.slice A2 l2.length c2)) b p up2 l2 A2 c2 F2 G2 ∧ (∀ k, F2 k → F k ∨ wr.heap.size ≤ k) ∧ (∀ k, G2 k → G k ∨ wr.heap.size ≤ k) ∧ Upd wr ((w4.setCell ⟨p, 0, none⟩ (.bool up2)).setCell ⟨p, 1, none⟩ (.slice A2 l2.length c2)) (fun k => F k ∨ k = p)) := by
  obtain ⟨k, hk4, hd⟩ := do_calls kd
  refine ⟨(stepE k id up l).1, (stepE k id up l).2, step_len k id up l, fun wr b p A c F G h X hX => ?_⟩
  have hX1 := h.upd0 hX
  have hlt := blk_lt h.2.1
  have hlX := blk_lt hX1.2.1
  refine (hd X _ _ b up _ l id hX1.1 hl).mono ?_
  rintro e w4 ⟨v4, F4, G4, rfl, h4, hF4, hG4, hu4⟩
  obtain ⟨A2, c2, rfl⟩ := Kd.R_slice h4.2.1
  have hp4 : w4.heap[p]? = some (.cells #[.bool up, .slice A l.length c] 34 (0, 0)) := (hu4.block hlX hX1.2.2.1).trans hX1.2.1
  have hzX := hX.size
  have hz4 := hu4.size
  have hY := ((Upd.refl w4 (fun k => k = p)).setCell (p := ⟨p, 0, none⟩) (.inl rfl) (.bool (stepE k id up l).1)).setCell (p := ⟨p, 1, none⟩) (.inl rfl) (.slice A2 (stepE k id up l).2.length c2)
  have nF : ∀ k, F4 k → ¬ k = p := fun k hk e => by
    rcases hF4 k hk with h' | h'
    · exact h.2.2.1 (e ▸ h'.1)
    · omega
  have nG : ∀ k, G4 k → ¬ k = p := fun k hk e => by
    rcases hG4 k hk with h' | h'
    · exact h.2.2.2 (e ▸ h'.1)
    · omega
  refine ⟨A2, c2, rfl, hp4, fun k => F4 k ∧ k < w4.heap.size, fun k => G4 k ∧ k < w4.heap.size, ⟨⟨h4.1.upd hY (fun k hk _ => nF k hk), R_upd h4.2.1 hY (fun k hk _ => nG k hk), fun k hk hg => h4.2.2 k hk.1 hg.1⟩, blk_set (blk_set hp4 0 _) 1 _, fun hk => nF _ hk.1 rfl, fun hk => nG _ hk.1 rfl⟩, fun k hk => ?_, fun k hk => ?_, ?_⟩
  · exact (hF4 k hk.1).elim (fun h' => .inl h'.1) (fun h' => .inr (by omega))
  · exact (hG4 k hk.1).elim (fun h' => .inl h'.1) (fun h' => .inr (by omega))
  · exact ((hX.mono (G := fun k => F k ∨ k = p) (fun _ h => h.elim)).trans hu4 (fun k hk => .inl (.inl hk.1))).trans hY (fun k hk => .inl (.inr hk))

/-- One Event, the document's beside it, told from the law's begin. -/
def LS (w wr : World) (b p : Nat) (up : Bool) (l : List Int) : Prop :=
  ∃ A c F G, LF wr b p up l A c F G ∧ (∀ k, F k → w.heap.size ≤ k) ∧ (∀ k, G k → w.heap.size ≤ k) ∧ w.heap.size ≤ p ∧ Below w.heap.size w wr

end Go.Proofs.Ytfmbpiimadljkaa.EvTwo
