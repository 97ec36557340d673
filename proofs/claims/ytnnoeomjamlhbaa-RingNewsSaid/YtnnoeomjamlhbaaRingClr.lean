import Derived.Test.YtnnoeomjamlhbaaRingAll
import Derived.Lib.SliceRun
set_option linter.unusedVariables false
set_option linter.unusedSimpArgs false
namespace Go.Proofs.Ytnnoeomjamlhbaa.RingClr
attribute [local go_sem] Go.Proofs.Ytnnoeomjamlhbaa.Own.min_two Go.Proofs.Ytnnoeomjamlhbaa.Own.min2_mn
open Go.RowKit Go.Proofs.YtnnoeomjamlhbaaW.PrintWords Go.Proofs.Ytnnoeomjamlhbaa.Own Go.Proofs.Ytnnoeomjamlhbaa.SlU Go.Proofs.Ytnnoeomjamlhbaa.Ring Go.Proofs.Ytnnoeomjamlhbaa.RingQ Go.Proofs.Ytnnoeomjamlhbaa.RingTold Go.Proofs.Ytnnoeomjamlhbaa.RingAll

theorem zero28 : ∀ w, (zeroValue 28).run Try.prog w = .ok (.slice none 0 0) w := by
  intro w
  have h := info28
  cases hi : Try.prog.info? 28 with
  | none => rw [hi] at h; cases h
  | some i =>
    rw [hi] at h
    simp only [Option.map_some, Option.some.injEq, Prod.mk.injEq] at h
    simp [zeroValue, typeInfo, hi, h.1]

set_option maxHeartbeats 1000000 in
theorem q_clear (w : World) (F : Nat → Prop) (b room words : Nat) (q : List (List Int)) (h : RQ w F b room words q) :
    Calls Try.prog 24 #[.pointer (some ⟨b, 0, none⟩)] w fun e w' => e = .returned (.tuple #[]) ∧ RQ w' F b room words [] ∧ Upd w w' F := by
  obtain ⟨f, sl, ⟨hFb, g, cap, cur, hb, hFg, hne, hcap, hgb, hm⟩, hf, hql, hroom, hwords, hsl, hml⟩ := h
  have c0 : w.cell? ⟨b, 0, none⟩ = some (.slice (some ⟨g, 0, none⟩) room cap) := blk_cell hb 0
  have hsz : room ≤ cur.size := by
    rcases Nat.lt_or_ge cur.size room with h | h
    · obtain ⟨v, hv, _⟩ := hm cur.size h
      rw [Array.getElem?_eq_none (Nat.le_refl _)] at hv
      cases hv
    · exact h
  have hrun : ∀ ty, (Builtin.clear_ #[22] ty #[.slice (some ⟨g, 0, none⟩) room cap]).run Try.prog w = .ok (.tuple #[]) (w.setCells g 0 (List.replicate room (.slice none 0 0))) := fun ty =>
    Lib.run_clear_slice w 22 28 ty (.slice none 0 0) Try.underlying22 zero28 rfl rfl g 0 room cap (by omega)
      (fun j hj => by
        obtain ⟨v, hv, _⟩ := hm j hj
        rw [Nat.zero_add, blk_cell hgb j, hv]; rfl)
      (fun j hj => blk_frozen hgb _)
  obtain ⟨W1, hW1⟩ : ∃ W1, W1 = w.setCells g 0 (List.replicate room (.slice none 0 0)) := ⟨_, rfl⟩
  rw [← hW1] at hrun
  obtain ⟨hs1, hs2, hs3, hs4⟩ := setCells_same g (List.replicate room (.slice none 0 0)) 0 w
  obtain ⟨cur', hgb1, hcs, hcl⟩ := setCells_row (List.replicate room (.slice none 0 0)) 0 w cur hgb (by simp; omega)
  have hu : Upd w W1 (fun k => k = g) := by
    rw [hW1]
    exact ⟨hs1, hs2, hs3, ⟨by rw [hs4]; exact Nat.le_refl _, fun i _ hn => setCells_far _ _ i hn⟩⟩
  rw [← hW1] at hgb1
  have hb1 : W1.heap[b]? = some (.cells #[.slice (some ⟨g, 0, none⟩) room cap, .int .i64 words, .int .i64 f, .int .i64 q.length] 58 (0, 0)) := (hu.block (blk_lt hb) (fun h => hne h.symm)).trans hb
  have hcur : ∀ i, i < room → cur'[i]? = some (.slice none 0 0) := fun i hi => by
    rw [← Array.getElem?_toList, hcl]
    simp [List.getElem?_append_left, List.getElem?_replicate, hi]
  have f2 : W1.frozen? ⟨b, 2, none⟩ = false := blk_frozen hb1 2
  have f3 : W1.frozen? ⟨b, 3, none⟩ = false := blk_frozen hb1 3
  have c2 : W1.cell? ⟨b, 2, none⟩ = some (.int .i64 f) := blk_cell hb1 2
  have c3 : W1.cell? ⟨b, 3, none⟩ = some (.int .i64 q.length) := blk_cell hb1 3
  have HB := Aside0.mk hb1
  have HG := Aside0.mk hgb1
  have HC := Aside0.mk hcur
  have HU := Aside0.mk hu
  have HFb := Aside0.mk hFb
  have HFg := Aside0.mk hFg
  have HNE := Aside0.mk hne
  clear hb hgb hm hsl hml hW1 hs1 hs2 hs3 hs4 hcl hgb1 hu hb1 hcur hFb hFg hcs hne
  go_enter Try.func24, Try.ntmps24
  go_wp2_with fail
  go_end0
  have hX := ((Upd.refl W1 (fun k => k = b)).setCell (p := ⟨b, 2, none⟩) (.inl rfl) (.int .i64 0)).setCell (p := ⟨b, 3, none⟩) (.inl rfl) (.int .i64 0)
  have hR1 : RG W1 F b room words f q.length (fun _ => []) := ⟨HFb.out, g, cap, cur', HB.out, HFg.out, HNE.out, hcap, HG.out, fun i hi => ⟨_, HC.out i hi, Kd.V_nil nk 37 W1 0 _⟩⟩
  exact ⟨rfl, ⟨0, _, hR1.ctl hX (fun g1 cap1 h1 => blk_set (blk_set h1 2 _) 3 _), by omega, by simp, hroom, hwords, fun k hk => by simp at hk, fun m hm => by simp at hm⟩, (HU.out.mono (G := F) (fun k hk => by rw [hk]; exact HFg.out)).trans hX (fun k hk => by rw [hk]; exact .inl HFb.out)⟩
end Go.Proofs.Ytnnoeomjamlhbaa.RingClr
