import Derived.Test.YtdmhlfjocajinaaOwn2
import Derived.Deep.RegionHeld3
set_option linter.unusedVariables false
set_option linter.unusedSimpArgs false
namespace Go.Proofs.Ytdmhlfjocajinaa.DelI
open Go.RowKit Go.Proofs.YtdmhlfjocajinaaW.PrintWords Go.Proofs.Ytdmhlfjocajinaa.Own Go.Proofs.Ytdmhlfjocajinaa.Own2

theorem zero_run {P : Program} {e : TypeId} {z : Value} (h : (P.info? e).map (fun i => i.zero) = some (some z)) : ∀ w, (zeroValue e).run P w = .ok z w := by
  intro w
  cases hi : P.info? e with
  | none => rw [hi] at h; cases h
  | some i =>
    rw [hi] at h
    simp only [Option.map_some, Option.some.injEq] at h
    simp [zeroValue, typeInfo, hi, h]
theorem take_set_beyond {α : Type} (l : List α) (i n : Nat) (x : α) (h : n ≤ i) : (l.set i x).take n = l.take n := by
  rw [List.take_set, List.set_eq_of_length_le (by rw [List.length_take]; omega)]
/-- A cell of the row's room that is behind its elements. -/
theorem R_beyond {α : Type} {d : Kd α} {e base : Nat} {ok : Nat → Prop} {w : World} {g n c i : Nat} {xs : List α} (h : d.R e w base ok (.slice (some ⟨g, 0, none⟩) n c) xs) (hi : n * d.sz ≤ i) (u : Value) :
    d.R e (w.setCell ⟨g, i, none⟩ u) base ok (.slice (some ⟨g, 0, none⟩) n c) xs := by
  obtain ⟨h0, inner, ⟨hl, ho⟩, hr⟩ := h
  refine ⟨h0, inner, ⟨hl, ?_⟩, hr.imp_ (fun x cs hm => M_far' hm)⟩
  · rcases ho with ⟨hv, _⟩ | ⟨g', cap, cur, hv, hb, hg, hn, hm, hs, ht⟩
    · cases hv
    · injection hv with h1 h2 h3
      injection h1 with h1
      injection h1 with h1
      subst h1 h3
      rw [← h2] at hl ht hn ⊢
      exact .inr ⟨g, c, cur.setIfInBounds i u, rfl, hb, blk_set hg i u, hn, hm, by simpa using hs, by rw [Array.toList_setIfInBounds, take_set_beyond _ _ _ _ hi]; exact ht⟩
where
  M_far' {x : _} {cs : List Value} (hm : d.M w base (fun k => ok k ∧ some k ≠ (Value.slice (some ⟨g, 0, none⟩) n c).ownBlock) x cs) : d.M (w.setCell ⟨g, i, none⟩ u) base (fun k => ok k ∧ some k ≠ (Value.slice (some ⟨g, 0, none⟩) n c).ownBlock) x cs :=
    Kd.M_far (p := ⟨g, i, none⟩) hm (fun k hk h => hk.2 (by rw [h]; rfl)) u

set_option maxHeartbeats 1000000 in
/-- 'slices.Delete[[]int,int](s, k, k+1)'. -/
theorem del_calls (g c k : Nat) (l : List Int) (w : World) (ok : Nat → Prop) (h : (Kd.int .i64).R 3 w 0 ok (.slice (some ⟨g, 0, none⟩) l.length c) l) (hk : k < l.length) :
    Calls Try.prog 21 #[.slice (some ⟨g, 0, none⟩) l.length c, .int .i64 k, .int .i64 ((k : Int) + 1)] w fun e w' => e = .returned (.slice (some ⟨g, 0, none⟩) (l.length - 1) c) ∧ (Kd.int .i64).R 3 w' 0 ok (.slice (some ⟨g, 0, none⟩) (l.length - 1) c) (l.eraseIdx k) ∧ Upd w w' (fun k => k = g) := by
  obtain ⟨i, hi, hsz⟩ : ∃ i, Try.prog.info? 3 = some i ∧ i.size = (Kd.int .i64).sz := ⟨_, rfl, rfl⟩
  have hinfo : (Try.prog.info? 3).map (·.size) = some (Kd.int .i64).sz := by rw [hi, Option.map_some, hsz]
  have hlc := (Kd.R_reads' h).2.1
  have hmx := Kd.C_max (Kd.R_reads' h).2.2
  obtain ⟨n, hn⟩ : ∃ n, n = l.length := ⟨_, rfl⟩
  have hc1 := cut_to (P := Try.prog) 30 3 .i64 Try.underlying30 hi (some ⟨g, 0, none⟩) l.length c (k : Int) (by omega) (by omega) hlc
  have hc2 := cut_from (P := Try.prog) 30 3 .i64 Try.underlying30 hi _ hsz (some ⟨g, 0, none⟩) l.length c ((k : Int) + 1) (by omega) (by omega)
  rw [Int.toNat_natCast] at hc1
  rw [show ((k : Int) + 1).toNat = k + 1 by omega] at hc2
  obtain ⟨A2, hA2⟩ : ∃ A2, A2 = (if c = k + 1 then some (⟨g, 0, none⟩ : Addr) else (some (⟨g, 0, none⟩ : Addr)).map (·.add ((k + 1) * (Kd.int .i64).sz))) := ⟨_, rfl⟩
  rw [← hA2] at hc2
  have HA2 := Aside0.mk hA2
  have HR := Aside0.mk h
  have e1 : ((k : Int) == (k : Int) + 1) = false := by rw [beq_eq_false_iff_ne]; omega
  have b1 : (0 : Int) ≤ (k : Int) := by omega
  have b2 : (k : Int) + 1 ≤ (l.length : Int) := by omega
  have b3 : (k : Int) ≤ (k : Int) + 1 := by omega
  have b4 : (l.length : Int) ≤ (c : Int) := by omega
  rw [← hn] at hc1 hc2 HR hlc hmx hk b2 b4 ⊢
  have HN := Aside0.mk hn
  clear h hA2 hn hi hsz
  go_enter Try.func21, Try.ntmps21
  go_wp2_with fail
  go_region_held3 (fun w' => True) (exact trivial)
    (first
      | (refine Kd.R_delete_step (Kd.int .i64) (w0 := w) (W := w.drew) 0 rfl (.tmp 22) (.tmp 25) 30 3 rfl Try.underlying30 hinfo (g := g) (n := n) (c := c) (k := k) (m := n - (k + 1)) (c2 := c - (k + 1)) (A := A2) (xs := l) (ok := ok) rfl rfl HA2.out rfl (Kd.R_drew HR.out) hk ((Below.refl _ _).upd (Nat.zero_le _) (Upd.refl _ (fun _ => False)).drew (fun _ h => h.elim)) (Nat.zero_le _) ?_; intro w1 hr1 hb1 hg1; have HR1 := Aside0.mk hr1; have HG1 := Aside0.mk hg1; clear hr1 hb1 hg1))
  clear hc1 hc2
  have hU1 : Upd w w1 (fun k => k = g) := (Upd.refl w _).drew.grown HG1.out (fun k hk => by injection hk with hk; exact .inl hk.symm)
  have hn1 : (n : Int) - 1 = ((n - 1 : Nat) : Int) := by omega
  have hrow : ∃ cur, w1.heap[g]? = some (.cells cur 3 (0, 0)) ∧ n ≤ cur.size := by
    obtain ⟨_, inner, ⟨_, ho⟩, _⟩ := HR1.out
    rcases ho with ⟨hv, _⟩ | ⟨g', cap, cur, hv, _, hg, _, _, hs, _⟩
    · cases hv
    · injection hv with h1 h2 h3
      injection h1 with h1
      injection h1 with h1
      subst h1 h3
      refine ⟨cur, hg, ?_⟩
      rw [hs]
      show n ≤ c * 1
      omega
  obtain ⟨cur, hcg, hcs⟩ := hrow
  have hcl : ∀ ty, (Builtin.clear_ #[30] ty #[.slice (some ⟨g, n - 1, none⟩) 1 (c - (n - 1))]).run Try.prog w1 = .ok (.tuple #[]) (w1.setCell ⟨g, n - 1, none⟩ (.int .i64 0)) := fun ty => by
    have := Lib.run_clear_slice (P := Try.prog) w1 30 3 ty (.int .i64 0) Try.underlying30 (zero_run (by kernel_rfl)) rfl rfl g (n - 1) 1 (c - (n - 1)) (by omega)
      (fun j hj => by rw [blk_cell hcg]; rw [Array.getElem?_eq_getElem (by omega)]; rfl) (fun j hj => blk_frozen hcg _)
    exact this
  have HR2 := Aside0.mk (R_beyond (i := n - 1) HR1.out (by show (n - 1) * 1 ≤ n - 1; omega) (.int .i64 0))
  have HU2 := Aside0.mk (hU1.setCell (p := ⟨g, n - 1, none⟩) (.inl rfl) (.int .i64 0))
  obtain ⟨W2, hW2⟩ : ∃ W2, W2 = w1.setCell ⟨g, n - 1, none⟩ (.int .i64 0) := ⟨_, rfl⟩
  rw [← hW2] at hcl HR2 HU2
  clear hU1 hcg hcs hW2 HR1 HG1
  have c1 : ¬ c = n - 1 := by omega
  have c2 : (0 : Int) ≤ ((n - 1 : Nat) : Int) := by omega
  have c3 : ((n - 1 : Nat) : Int) ≤ (n : Int) := by omega
  have c4 : n - (n - 1) = 1 := by omega
  go_wp2_with fail
  go_ret
  exact ⟨rfl, HR2.out, HU2.out⟩
end Go.Proofs.Ytdmhlfjocajinaa.DelI
