import Derived.Test.YtfmbpiimadljkaaEvDrop
import Derived.Deep.RegionHeld3
import Derived.Deep.DrawnRows
set_option linter.unusedVariables false
set_option linter.unusedSimpArgs false
namespace Go.Proofs.Ytfmbpiimadljkaa.EvRef
attribute [local go_sem ↓] Go.wp_at_zero Go.wp_at_succ
open Go.RowKit Go.Proofs.YtfmbpiimadljkaaW.PrintWords Go.Proofs.Ytfmbpiimadljkaa.Own Go.Proofs.Ytfmbpiimadljkaa.Ev Go.Proofs.Ytfmbpiimadljkaa.SlI Go.Proofs.Ytfmbpiimadljkaa.EvDrop

set_option maxHeartbeats 1000000 in
theorem without_calls (A : Option Addr) (c : Nat) (l : List Int) (id : Int) (w : World) (hr : ints.C w A l.length l) (hl : l.length ≤ 1000000) :
    Calls Try.prog 18 #[.slice A l.length c, .int .i64 id] w fun e w' => ∃ v, e = .returned v ∧ ints.R 3 w' 0 (fun k => w.heap.size ≤ k) v (without l id) ∧ Upd w w' (fun _ => False) := by
  have HR := Aside0.mk hr
  clear hr
  go_enter Try.func18, Try.ntmps18
  go_wp2_with fail
  go_loopg [5, 6] l.length (fun g v i wr => ∃ (j : Nat) (l2 : List Int), i = .int .i64 j ∧ j ≤ l.length ∧ l.length - j ≤ g ∧ l2.length ≤ j ∧ Aside0 (l2 = without (l.take j) id) ∧ Aside0 (ints.R 3 wr 0 (fun k => w.heap.size ≤ k) v l2) ∧ Aside0 (Upd w wr (fun _ => False)))
  case atStart => exact ⟨0, [], rfl, Nat.zero_le _, by omega, by simp, ⟨rfl⟩, ⟨Kd.R_nil _ _ _ _ _⟩, ⟨Upd.refl _ _⟩⟩
  case round =>
    obtain ⟨j, l2, rfl, hj, hg, hl2, HL, HO, HU⟩ := hrel
    by_cases hlt : j < l.length
    · cases gk with
      | zero => omega
      | succ g1 =>
      obtain ⟨ad, rfl, hc⟩ := Kd.at_int HR.out (j : Int) (by omega) (by omega)
      rw [Int.toNat_natCast] at hc
      replace hc := cell_upd0 HU.out hc
      have b0 : (0 : Int) ≤ (j : Int) := by omega
      have b1 : (j : Int) < (l.length : Int) := by omega
      have b2 := HU.out.size
      by_cases he : rd l j = id
      · have hb : (rd l j != id) = false := bne_eq_false_iff_eq.mpr he
        have HL2 : Aside0 (l2 = without (l.take (j + 1)) id) := ⟨by rw [without_eq hlt he]; exact HL.out⟩
        clear he
        go_wp2
        go_roundg g1
        case rel => exact ⟨j + 1, l2, by go_num, by omega, by omega, by omega, HL2, HO, HU⟩
        case measure => omega
      · have hb : (rd l j != id) = true := bne_iff_ne.mpr he
        obtain ⟨l3, hl3⟩ : ∃ l3, l3 = l2 ++ [rd l j] := ⟨_, rfl⟩
        have HL2 : Aside0 (l3 = without (l.take (j + 1)) id) := ⟨by rw [without_ne hlt he, hl3, HL.out]⟩
        have hl3' : l3.length ≤ j + 1 := by rw [hl3]; simp; omega
        have HL3 := Aside0.mk hl3
        clear he hl3
        obtain ⟨A1, c1, rfl⟩ := Kd.R_slice HO.out
        go_wp2_with (at_builtin; refine Kd.R_append ints (w0 := wr) 0 rfl (.tmp 19) (.tmp 24) 22 3 (.int .i64 0) 8 rfl Try.underlying22 SlI.info rfl (by decide) (by omega) (.slice A1 l2.length c1) l2 (rd l j) [.int .i64 (rd l j)] (fun k => w.heap.size ≤ k) (fun _ => False) rfl rfl ?aP (fun _ hk => hk.elim) ?aF ?aO ?aB ?aS ?aL ?_)
        case aP => exact rfl
        case aF => exact fun k hk => by omega
        case aO => exact HO.out
        case aB => exact Below.refl _ _
        case aS => omega
        case aL => omega
        intro v1 w1 ho hb1 hg1 hat
        rw [← HL3.out] at ho
        have HU2 := Aside0.mk (HU.out.grown hg1 (fun k hk => .inr (HO.out.1 k hk)))
        have HO2 := Aside0.mk ho
        clear ho hb1 hg1 hat HO HU hc
        go_wp2
        go_roundg g1
        case rel => exact ⟨j + 1, l3, by go_num, by omega, by omega, hl3', HL2, HO2, HU2⟩
        case measure => omega
    · have hjl : j = l.length := by omega
      have HL2 : Aside0 (l2 = without l id) := ⟨by rw [HL.out, hjl, List.take_length]⟩
      go_wp2
      go_ret
      rw [← HL2.out]
      exact ⟨_, rfl, HO.out, HU.out⟩

set_option maxHeartbeats 1000000 in
theorem rwait_calls (w : World) (G : Nat → Prop) (up : Bool) (v : Value) (l : List Int) (id : Int) (hr : ints.R 3 w 0 G v l) (hl : l.length ≤ 1000000) :
    Calls Try.prog 27 #[.agg #[.bool up, v], .int .i64 id] w fun e w' => ∃ v', e = .returned (.tuple #[.agg #[.bool up, v'], .bool up]) ∧ ints.R 3 w' 0 (fun k => G k ∨ w.heap.size ≤ k) v' (waitL up l id) ∧ Upd w w' (fun _ => False) := by
  obtain ⟨A, c, rfl⟩ := Kd.R_slice hr
  have HR := Aside0.mk hr
  have HC := Aside0.mk (Kd.R_reads' hr).2.2
  clear hr
  have hu34 := Try.underlying34
  cases up
  · cases hin : hasB l id
    · have HIn := Aside0.mk hin
      obtain ⟨l2, hl2⟩ : ∃ l2, l2 = l ++ [id] := ⟨_, rfl⟩
      have HW : Aside0 (waitL false l id = l2) := ⟨by unfold waitL; rw [hin, hl2]; simp⟩
      have HL2 := Aside0.mk hl2
      clear hin hl2
      go_enter Try.func27, Try.ntmps27
      go_wp2_with fail
      refine (HasR.has_calls A c l id _ (Kd.C_alloc (Kd.C_alloc HC.out _) _)).mono ?_
      rw [HIn.out]
      rintro e w' ⟨rfl, rfl⟩
      obtain ⟨W1, hW1⟩ : ∃ W1, W1 = ((w.alloc (.cells #[.bool false, .slice A l.length c] 34)).alloc (.cells #[.bool false, .slice none 0 0] 34)) := ⟨_, rfl⟩
      have hs1 : W1.heap.size = w.heap.size + 2 := by rw [hW1]; simp
      have HU1 : Aside0 (Upd w W1 (fun _ => False)) := ⟨by rw [hW1]; exact ((Upd.refl _ _).alloc _).alloc _⟩
      have hb0 : W1.heap[w.heap.size]? = some (.cells #[.bool false, .slice A l.length c] 34 (0, 0)) := by rw [hW1]; exact blk_alloc (heap_alloc_new w _) _
      have hb1 : W1.heap[w.heap.size + 1]? = some (.cells #[.bool false, .slice none 0 0] 34 (0, 0)) := by rw [hW1]; simpa using heap_alloc_new (w.alloc (.cells #[.bool false, .slice A l.length c] 34)) (.cells #[.bool false, .slice none 0 0] 34)
      have HC1 : Aside0 (ints.C W1 A l.length l) := ⟨by rw [hW1]; exact Kd.C_alloc (Kd.C_alloc HC.out _) _⟩
      have c0 : W1.cell? ⟨w.heap.size, 0, none⟩ = some (.bool false) := blk_cell hb0 0
      have c1 : W1.cell? ⟨w.heap.size, 1, none⟩ = some (.slice A l.length c) := blk_cell hb0 1
      have HB0 := Aside0.mk hb0
      have HB1 := Aside0.mk hb1
      clear hb0 hb1
      rw [← hW1]
      clear hW1
      have HS1 := Aside0.mk hs1
      have hne1 : w.heap.size ≠ W1.heap.size := by omega
      have hl1 : w.heap.size < W1.heap.size := by omega
      have hl2' : w.heap.size + 1 < W1.heap.size := by omega
      have hne2 : w.heap.size + 1 ≠ W1.heap.size := by omega
      clear hs1
      go_wp2_with (at_builtin; refine Kd.R_append_rows ints (Rr := fun x cs => cs = [Value.int .i64 x]) (w0 := W1) 0 rfl (.tmp 14) (.tmp 16) 22 3 (.int .i64 0) 8 rfl Try.underlying22 SlI.info rfl (by decide) (by omega) (.slice (some ⟨W1.heap.size, 0, none⟩) 0 0) [] l A l.length c (fun k => W1.heap.size ≤ k) (fun _ => False) rfl rfl ?aO ?aR ?aK (fun _ hk => hk.elim) ?aF ?aB ?aS ?aL ?_)
      case aO =>
        refine ⟨fun k hk => ?_, [], World.ownsRow_made W1 #[] 0 (Nat.zero_le _) (Nat.zero_le _) (by simp), Reps.none _ _⟩
        have : W1.heap.size = k := by simpa [Value.ownBlock] using hk
        omega
      case aR => exact Kd.C_alloc HC1.out _
      case aK => exact fun x cs h => h
      case aF => intro k hk; simp at hk; omega
      case aB => exact (Below.refl _ _).alloc (Nat.zero_le _) _
      case aS => omega
      case aL => simp; omega
      intro v2 W2 ho2 hbl2 hg2 hat2
      have hu2 : Upd W1 W2 (fun _ => False) := ((Upd.refl W1 (fun _ => False)).alloc _).grown hg2 (fun k hk => by
        have : W1.heap.size = k := by simpa [Value.ownBlock] using hk
        right; omega)
      have hw2 := HB0.out
      have HU2 := Aside0.mk (HU1.out.step hu2)
      have HB02 := Aside0.mk ((hu2.block (by rw [HS1.out]; omega) (fun h => h)).trans HB0.out)
      have HB12 := Aside0.mk ((hu2.block (by rw [HS1.out]; omega) (fun h => h)).trans HB1.out)
      have hz2 := hu2.size
      have hl1w : w.heap.size < W2.heap.size := by omega
      have hl2w : w.heap.size + 1 < W2.heap.size := by omega
      obtain ⟨A2, cc2, rfl⟩ := Kd.R_slice ho2
      have HO2 := Aside0.mk ho2
      clear ho2 hbl2 hg2 hat2 hu2 hw2 c0 c1 HB0 HB1 HU1 HC1
      go_wp2_with (at_builtin; refine Kd.R_append ints (w0 := W2) 0 rfl (.tmp 17) (.tmp 19) 22 3 (.int .i64 0) 8 rfl Try.underlying22 SlI.info rfl (by decide) (by omega) (.slice A2 l.length cc2) l id [.int .i64 id] (fun k => W1.heap.size ≤ k) (fun _ => False) rfl rfl ?aP (fun _ hk => hk.elim) ?aF ?aO ?aB ?aS ?aL ?_)
      case aP => exact rfl
      case aF => exact fun k hk => by omega
      case aO => exact HO2.out
      case aB => exact Below.refl _ _
      case aS => omega
      case aL => omega
      intro v3 W3 ho3 hbl3 hg3 hat3
      rw [← HL2.out] at ho3
      have hn0 : some w.heap.size ≠ (Value.slice A2 l.length cc2).ownBlock := Kd.R_ne HO2.out HB02.out (by decide)
      have hn1 : some (w.heap.size + 1) ≠ (Value.slice A2 l.length cc2).ownBlock := Kd.R_ne HO2.out HB12.out (by decide)
      have HB03 := Aside0.mk (blk_grown HB02.out hg3 hn0)
      have HB13 := Aside0.mk (blk_grown HB12.out hg3 hn1)
      have HU3 := Aside0.mk (HU2.out.grown hg3 (fun k hk => by
        have := HO2.out.1 k hk
        have := HS1.out
        right; omega))
      obtain ⟨A3, cc3, rfl⟩ := Kd.R_slice ho3
      have HO3 := Aside0.mk ho3
      clear ho3 hbl3 hg3 hat3 hn0 hn1 HB02 HB12 HU2 HO2
      have e0 : W3.cell? ⟨w.heap.size, 0, none⟩ = some (.bool false) := blk_cell HB03.out 0
      have e1 : W3.cell? ⟨w.heap.size, 1, none⟩ = some (.slice A l.length c) := blk_cell HB03.out 1
      have e2 : W3.frozen? ⟨w.heap.size, 1, none⟩ = false := blk_frozen HB03.out 1
      have e3 : W3.cell? ⟨w.heap.size + 1, 0, none⟩ = some (.bool false) := blk_cell HB13.out 0
      have e4 : W3.cell? ⟨w.heap.size + 1, 1, none⟩ = some (.slice none 0 0) := blk_cell HB13.out 1
      have e5 : W3.frozen? ⟨w.heap.size + 1, 0, none⟩ = false := blk_frozen HB13.out 0
      have e6 : W3.frozen? ⟨w.heap.size + 1, 1, none⟩ = false := blk_frozen HB13.out 1
      go_wp2_with fail
      refine bodyPost_ret (results_ct rfl _ _ (w.heap.size + 1) 34 #[.bool false, .slice A3 l2.length cc3] (0, 0) _ rfl (blk_set (blk_set (blk_far HB13.out (by simp) _) 0 _) 1 _) Try.underlying34 rfl (by kernel_rfl)) rfl ?_
      rw [HW.out]
      have hs1 := HS1.out
      refine ⟨_, rfl, Kd.R_mono (Kd.R_far (Kd.R_far (Kd.R_far HO3.out (fun k hk => ?_) _) (fun k hk => ?_) _) (fun k hk => ?_) _) (fun k hk => ?_), ((HU3.out.setCell (.inr (Nat.le_refl _)) _).setCell (.inr (Nat.le_succ _)) _).setCell (.inr (Nat.le_succ _)) _⟩
      · show k ≠ w.heap.size; omega
      · show k ≠ w.heap.size + 1; omega
      · show k ≠ w.heap.size + 1; omega
      · right; omega
    · have HIn := Aside0.mk hin
      have HW : Aside0 (waitL false l id = l) := ⟨by unfold waitL; rw [hin]; simp⟩
      clear hin
      go_enter Try.func27, Try.ntmps27
      go_wp2_with fail
      refine (HasR.has_calls A c l id _ (Kd.C_alloc (Kd.C_alloc HC.out _) _)).mono ?_
      rw [HIn.out]
      rintro e w' ⟨rfl, rfl⟩
      go_wp2_with fail
      refine bodyPost_ret (results_ct rfl _ _ (w.heap.size + 1) 34 #[.bool false, .slice A l.length c] (0, 0) _ rfl (by simpa using heap_alloc_new (w.alloc _) _) Try.underlying34 rfl (by kernel_rfl)) rfl ?_
      rw [HW.out]
      exact ⟨_, rfl, Kd.R_alloc (Kd.R_alloc (Kd.R_mono HR.out (fun k hk => .inl hk)) _) _, ((Upd.refl _ _).alloc _).alloc _⟩
  · go_enter Try.func27, Try.ntmps27
    go_wp2_with fail
    refine bodyPost_ret (results_ct rfl _ _ (w.heap.size + 1) 34 #[.bool true, .slice A l.length c] (0, 0) _ rfl (by simpa using heap_alloc_new (w.alloc _) _) Try.underlying34 rfl (by kernel_rfl)) rfl ?_
    exact ⟨_, rfl, Kd.R_alloc (Kd.R_alloc (Kd.R_mono HR.out (fun k hk => .inl hk)) _) _, ((Upd.refl _ _).alloc _).alloc _⟩
end Go.Proofs.Ytfmbpiimadljkaa.EvRef
