import Derived.Test.YtdmhlfjocajinaaBoard
import Derived.Test.YtdmhlfjocajinaaPBoardSamex1
import Derived.Test.YtdmhlfjocajinaaPBoardSamex2
import Derived.RegionTactic
import Derived.IntWalk
import Derived.ChangeAlike
set_option linter.unusedVariables false
set_option linter.unusedSimpArgs false
namespace Go.Proofs.Ytdmhlfjocajinaa.BdRef
attribute [local go_sem ↓] Go.wp_at_zero Go.wp_at_succ
open Go.RowKit Go.Proofs.YtdmhlfjocajinaaW.PrintWords Go.Proofs.Ytdmhlfjocajinaa.Own Go.Proofs.Ytdmhlfjocajinaa.Own2 Go.Proofs.Ytdmhlfjocajinaa.Board

theorem new2 (w : World) (o o' : Obj) : ((w.alloc o).alloc o').heap[w.heap.size + 1]? = some o' := by simpa using heap_alloc_new (w.alloc o) o'
theorem set4 {w : World} {p : Nat} {t : TypeId} {a b c d : Value} {cs : Array Value} (h : w.heap[p]? = some (.cells cs t (0, 0))) (hs : cs.size = 4) :
    ((((w.setCell ⟨p, 0, none⟩ a).setCell ⟨p, 1, none⟩ b).setCell ⟨p, 2, none⟩ c).setCell ⟨p, 3, none⟩ d).heap[p]? = some (.cells #[a, b, c, d] t (0, 0)) := by
  have h2 := blk_set (blk_set (blk_set (blk_set h 0 a) 1 b) 2 c) 3 d
  rw [h2]
  congr 2
  match cs, hs with
  | ⟨[_, _, _, _]⟩, _ => rfl
theorem upd4 (w w' : World) (F : Nat → Prop) (hu : Upd w w' F) (p : Nat) (hp : F p ∨ w.heap.size ≤ p) (a b c d : Value) : Upd w ((((w'.setCell ⟨p, 0, none⟩ a).setCell ⟨p, 1, none⟩ b).setCell ⟨p, 2, none⟩ c).setCell ⟨p, 3, none⟩ d) F :=
  (((hu.setCell (p := ⟨p, 0, none⟩) hp a).setCell (p := ⟨p, 1, none⟩) hp b).setCell (p := ⟨p, 2, none⟩) hp c).setCell (p := ⟨p, 3, none⟩) hp d

theorem rshow_long (w : World) (n : Nat) (Am : Option Addr) (mn cm : Nat) (sh : Bool) (Al : Option Addr) (ll cl : Nat) (A : Option Addr) (k c : Nat) (hn : n < k) :
    Calls Try.prog 23 #[.agg #[.int .i64 n, .slice Am mn cm, .bool sh, .slice Al ll cl], .slice A k c] w fun e w' => e = .returned (.tuple #[.agg #[.int .i64 n, .slice Am mn cm, .bool sh, .slice Al ll cl], .slice none 0 0, .int .i64 2]) ∧ Upd w w' (fun _ => False) := by
  have e1 : decide ((k : Int) > (n : Int)) = true := by rw [decide_eq_true_eq]; omega
  have e2 : (n : Int) < (k : Int) := by omega
  have hu50 := Try.underlying50
  go_enter Try.func23, Try.ntmps23
  go_wp2_with fail
  exact bodyPost_ret (results_ctt rfl _ _ (w.heap.size + 1) 50 #[.int .i64 n, .slice Am mn cm, .bool sh, .slice Al ll cl] (0, 0) _ rfl (new2 _ _ _) Try.underlying50 rfl (by kernel_rfl)) rfl ⟨rfl, ((Upd.refl _ _).alloc _).alloc _⟩
theorem rshow_ok (w : World) (n : Nat) (Am : Option Addr) (mn cm : Nat) (sh : Bool) (Al : Option Addr) (ll cl : Nat) (A : Option Addr) (k c : Nat) (hn : k ≤ n) :
    Calls Try.prog 23 #[.agg #[.int .i64 n, .slice Am mn cm, .bool sh, .slice Al ll cl], .slice A k c] w fun e w' => e = .returned (.tuple #[.agg #[.int .i64 n, .slice A k c, .bool true, .slice none 0 0], .slice Al ll cl, .int .i64 0]) ∧ Upd w w' (fun _ => False) := by
  have e1 : decide ((k : Int) > (n : Int)) = false := by rw [decide_eq_false_iff_not]; omega
  have e2 : ¬ (n : Int) < (k : Int) := by omega
  have hu50 := Try.underlying50
  go_enter Try.func23, Try.ntmps23
  go_wp2_with fail
  exact bodyPost_ret (results_ctt rfl _ _ (w.heap.size + 1) 50 #[.int .i64 n, .slice A k c, .bool true, .slice none 0 0] (0, 0) _ rfl (new2 _ _ _) Try.underlying50 rfl (by kernel_rfl)) rfl ⟨rfl, ((Upd.refl _ _).alloc _).alloc _⟩
theorem rclear_calls (w : World) (n : Nat) (Am : Option Addr) (mn cm : Nat) (sh : Bool) (Al : Option Addr) (ll cl : Nat) :
    Calls Try.prog 24 #[.agg #[.int .i64 n, .slice Am mn cm, .bool sh, .slice Al ll cl]] w fun e w' => e = .returned (.agg #[.int .i64 n, .slice none 0 0, .bool false, .slice Al ll cl]) ∧ Upd w w' (fun _ => False) := by
  have hu50 := Try.underlying50
  go_enter Try.func24, Try.ntmps24
  go_wp2_with fail
  exact bodyPost_ret (v := .agg #[.int .i64 n, .slice none 0 0, .bool false, .slice Al ll cl]) (by simp [results, Try.results24, go_sem, hu50]) rfl ⟨rfl, ((Upd.refl _ _).alloc _).alloc _⟩
theorem rread_yes (w : World) (n : Nat) (Am : Option Addr) (mn cm : Nat) (Al : Option Addr) (ll cl : Nat) (id : Int) :
    Calls Try.prog 26 #[.agg #[.int .i64 n, .slice Am mn cm, .bool true, .slice Al ll cl], .int .i64 id] w fun e w' => e = .returned (.tuple #[.agg #[.int .i64 n, .slice Am mn cm, .bool true, .slice Al ll cl], .slice Am mn cm, .bool true]) ∧ Upd w w' (fun _ => False) := by
  have hu50 := Try.underlying50
  go_enter Try.func26, Try.ntmps26
  go_wp2_with fail
  go_region
  all_goals
    go_wp2_with fail
    exact bodyPost_ret (results_ctt rfl _ _ (w.heap.size + 1) 50 #[.int .i64 n, .slice Am mn cm, .bool true, .slice Al ll cl] (0, 0) _ rfl (new2 _ _ _) Try.underlying50 rfl (by kernel_rfl)) rfl ⟨rfl, (((Upd.refl _ _).alloc _).alloc _).drew⟩

theorem has_calls (A : Option Addr) (c : Nat) (l : List Int) (id : Int) (w : World) (hr : ik.C w A l.length l) :
    Calls Try.prog 32 #[.slice A l.length c, .int .i64 id] w fun e w' => e = .returned (.int .i64 (SlI.idx l id)) ∧ w = w' := by
  have HR := Aside0.mk hr
  have hm := Kd.C_max hr
  clear hr
  go_enter Try.func32, Try.ntmps32
  go_wp2
  go_loop [5] (fun i => ∃ k : Nat, k ≤ l.length ∧ i = .int .i64 k ∧ Aside0 (∀ j, j < k → rd l j ≠ id)) (fun i => l.length - (intOf i).toNat)
  case atStart => exact ⟨0, Nat.zero_le _, rfl, ⟨fun j hj => absurd hj (Nat.not_lt_zero _)⟩⟩
  case round =>
    obtain ⟨k, hk, rfl, HN⟩ := hrel
    by_cases hlt : k < l.length
    · obtain ⟨ad, rfl, hc⟩ := Kd.at_int HR.out (k : Int) (by omega) (by omega)
      rw [Int.toNat_natCast] at hc
      by_cases he : rd l k = id
      · have hb : (rd l k == id) = true := beq_iff_eq.mpr he
        have HE := Aside0.mk (SlI.idx_found hlt he HN.out)
        clear he
        go_wp2
        go_ret
        exact ⟨by rw [HE.out]; rfl, rfl⟩
      · have hb : (rd l k == id) = false := beq_eq_false_iff_ne.mpr he
        have HE := Aside0.mk he
        clear he
        go_wp2
        go_round
        case rel => exact ⟨k + 1, by omega, by go_num, ⟨fun j hj => by
          by_cases h : j = k
          · rw [h]; exact HE.out
          · exact HN.out j (by omega)⟩⟩
        case measure => simp [intOf]; omega
    · have HE := Aside0.mk (SlI.idx_none (l := l) (x := id) (fun j hj => HN.out j (by omega)))
      go_wp2
      go_ret
      exact ⟨by rw [HE.out]; rfl, rfl⟩

theorem rread_has (w : World) (n : Nat) (Am : Option Addr) (mn cm : Nat) (Al : Option Addr) (l : List Int) (cl : Nat) (id : Int) (h : ik.C w Al l.length l) (hc : l.length ≤ cl) (hin : hasB l id = true) :
    Calls Try.prog 26 #[.agg #[.int .i64 n, .slice Am mn cm, .bool false, .slice Al l.length cl], .int .i64 id] w fun e w' => e = .returned (.tuple #[.agg #[.int .i64 n, .slice Am mn cm, .bool false, .slice Al l.length cl], .slice none 0 0, .bool false]) ∧ Upd w w' (fun _ => False) := by
  have hu50 := Try.underlying50
  have H := Aside0.mk h
  obtain ⟨k, hkl, hki, _⟩ := has_idx hin
  have HI := Aside0.mk hki
  have b1 : decide ((k : Int) < 0) = false := by rw [decide_eq_false_iff_not]; omega
  clear h hin hki
  go_enter Try.func26, Try.ntmps26
  go_wp2_with fail
  refine (has_calls Al cl l id _ (Kd.C_alloc (Kd.C_alloc H.out _) _)).mono ?_
  rw [HI.out]
  rintro e w' ⟨rfl, rfl⟩
  go_wp2_with fail
  exact bodyPost_ret (results_ctt rfl _ _ (w.heap.size + 1) 50 #[.int .i64 n, .slice Am mn cm, .bool false, .slice Al l.length cl] (0, 0) _ rfl (new2 _ _ _) Try.underlying50 rfl (by kernel_rfl)) rfl ⟨rfl, ((Upd.refl _ _).alloc _).alloc _⟩
theorem rdrop_no (w : World) (n : Nat) (Am : Option Addr) (mn cm : Nat) (sh : Bool) (Al : Option Addr) (l : List Int) (cl : Nat) (id : Int) (h : ik.C w Al l.length l) (hin : hasB l id = false) :
    Calls Try.prog 25 #[.agg #[.int .i64 n, .slice Am mn cm, .bool sh, .slice Al l.length cl], .int .i64 id] w fun e w' => e = .returned (.tuple #[.agg #[.int .i64 n, .slice Am mn cm, .bool sh, .slice Al l.length cl], .bool false]) ∧ Upd w w' (fun _ => False) := by
  have hu50 := Try.underlying50
  have H := Aside0.mk h
  have HI := Aside0.mk (has_not hin).1
  clear h hin
  go_enter Try.func25, Try.ntmps25
  go_wp2_with fail
  refine (has_calls Al cl l id _ (Kd.C_alloc (Kd.C_alloc H.out _) _)).mono ?_
  rw [HI.out]
  rintro e w' ⟨rfl, rfl⟩
  go_wp2_with fail
  exact bodyPost_ret (results_ct rfl _ _ (w.heap.size + 1) 50 #[.int .i64 n, .slice Am mn cm, .bool sh, .slice Al l.length cl] (0, 0) _ rfl (new2 _ _ _) Try.underlying50 rfl (by kernel_rfl)) rfl ⟨rfl, ((Upd.refl _ _).alloc _).alloc _⟩
set_option maxHeartbeats 1000000 in
theorem rread_new (w : World) (n : Nat) (Am : Option Addr) (mn cm : Nat) (Al : Option Addr) (l : List Int) (cl : Nat) (id : Int) (h : ik.C w Al l.length l) (hll : l.length ≤ 1000000) (hin : hasB l id = false) :
    Calls Try.prog 26 #[.agg #[.int .i64 n, .slice Am mn cm, .bool false, .slice Al l.length cl], .int .i64 id] w fun e w' => ∃ v, e = .returned (.tuple #[.agg #[.int .i64 n, .slice Am mn cm, .bool false, v], .slice none 0 0, .bool false]) ∧ ik.R 3 w' 0 (fun k => w.heap.size ≤ k) v (l ++ [id]) ∧ Upd w w' (fun _ => False) := by
  have hu50 := Try.underlying50
  have H := Aside0.mk h
  have HI := Aside0.mk (has_not hin).1
  clear h hin
  go_enter Try.func26, Try.ntmps26
  go_wp2_with fail
  generalize hW : World.alloc _ _ = W1
  have hs1 : W1.heap.size = w.heap.size + 1 + 1 := by rw [← hW]; simp
  have HU1 : Aside0 (Upd w W1 (fun _ => False)) := ⟨by rw [← hW]; exact ((Upd.refl _ _).alloc _).alloc _⟩
  have hb0 : W1.heap[w.heap.size]? = some (.cells #[.int .i64 n, .slice Am mn cm, .bool false, .slice Al l.length cl] 50 (0, 0)) := by rw [← hW]; exact blk_alloc (heap_alloc_new w _) _
  have hb1 : W1.heap[w.heap.size + 1]? = some (.cells #[.int .i64 0, .slice none 0 0, .bool false, .slice none 0 0] 50 (0, 0)) := by rw [← hW]; exact new2 _ _ _
  have HB0 := Aside0.mk hb0
  have HB1 := Aside0.mk hb1
  have HC1 := Aside0.mk (Kd.C_below H.out (HU1.out.to_below (Nat.le_refl _) (fun _ h => h.elim)))
  have c3 : W1.cell? ⟨w.heap.size, 3, none⟩ = some (.slice Al l.length cl) := blk_cell hb0 3
  have hl0 : w.heap.size < W1.heap.size := by omega
  have hl1 : w.heap.size + 1 < W1.heap.size := by omega
  clear hW hb0 hb1 hs1
  refine (has_calls Al cl l id _ HC1.out).mono ?_
  rw [HI.out]
  rintro e w' ⟨rfl, rfl⟩
  go_wp2_with (at_builtin; refine Kd.R_append_rows ik (Rr := fun x cs => cs = [Value.int .i64 x]) (w0 := W1.alloc (.cells #[] 3)) 0 rfl (.tmp 17) (.tmp 19) 30 3 (.int .i64 0) 8 rfl Try.underlying30 SlI.info rfl (by decide) (by omega) (.slice (some ⟨W1.heap.size, 0, none⟩) 0 0) [] l Al l.length cl (fun k => W1.heap.size ≤ k) (fun _ => False) rfl rfl ?aO ?aR ?aK (fun _ hk => hk.elim) ?aF ?aB ?aS ?aL ?aH)
  case aO => exact Kd.R_mono (R_litN .i64 W1 3 [] (by simp)) (fun k hk => by rw [hk]; exact Nat.le_refl _)
  case aR => exact Kd.C_alloc HC1.out _
  case aK => rintro x cs rfl; rfl
  case aF => exact fun k hk => Nat.le_trans (Upd.size ((Upd.refl W1 (fun _ => False)).alloc _)) hk
  case aB => exact Below.refl _ _
  case aS => exact Nat.zero_le _
  case aL => simp; omega
  case aH =>
  intro v2 w2 ho hb2 hg2 hat2
  have hu2 : Upd W1 w2 (fun _ => False) := ((Upd.refl W1 (fun _ => False)).alloc (.cells #[] 3)).trans (Upd.of_grown (F := fun k => W1.heap.size ≤ k) hg2 (fun k hk => by
    have : W1.heap.size = k := by simpa [Value.ownBlock] using hk
    omega)) (fun k hk => .inr hk)
  replace ho : ik.R 3 w2 0 (fun k => W1.heap.size ≤ k) v2 l := ho
  obtain ⟨A2, c2, rfl⟩ := Kd.R_slice ho
  have HO := Aside0.mk ho
  have HU2 := Aside0.mk hu2
  clear ho hb2 hg2 hat2 hu2 c3
  go_wp2_with (at_builtin; refine Kd.R_append ik (w0 := w2) 0 rfl (.tmp 20) (.tmp 22) 30 3 (.int .i64 0) 8 rfl Try.underlying30 SlI.info rfl (by decide) (by omega) (.slice A2 l.length c2) l id [.int .i64 id] (fun k => W1.heap.size ≤ k) (fun _ => False) rfl rfl ?bP (fun _ hk => hk.elim) ?bF ?bO ?bB ?bS ?bL ?bH)
  case bP => exact rfl
  case bF => exact fun k hk => Nat.le_trans HU2.out.size hk
  case bO => exact HO.out
  case bB => exact Below.refl _ _
  case bS => omega
  case bL => omega
  case bH =>
  intro v3 w3 ho hb3 hg3 hat3
  have hu3 : Upd w2 w3 (fun k => W1.heap.size ≤ k) := Upd.of_grown hg3 (fun k hk => HO.out.1 k hk)
  have hu13 : Upd W1 w3 (fun _ => False) := HU2.out.trans hu3 (fun k hk => .inr hk)
  obtain ⟨l2, hl2⟩ : ∃ l2, l2 = l ++ [id] := ⟨_, rfl⟩
  rw [← hl2] at ho
  have HL2 := Aside0.mk hl2
  obtain ⟨A3, c3, rfl⟩ := Kd.R_slice ho
  have HO3 := Aside0.mk ho
  have HU3 := Aside0.mk hu13
  have hb0 := (hu13.block (by omega) (fun h => h)).trans HB0.out
  have hb1 := (hu13.block (by omega) (fun h => h)).trans HB1.out
  have HB1' := Aside0.mk hb1
  have k0 : w3.cell? ⟨w.heap.size, 0, none⟩ = some (.int .i64 n) := blk_cell hb0 0
  have k1 : w3.cell? ⟨w.heap.size, 1, none⟩ = some (.slice Am mn cm) := blk_cell hb0 1
  have k2 : w3.cell? ⟨w.heap.size, 2, none⟩ = some (.bool false) := blk_cell hb0 2
  have k3 : w3.cell? ⟨w.heap.size, 3, none⟩ = some (.slice Al l.length cl) := blk_cell hb0 3
  have f3 : w3.frozen? ⟨w.heap.size, 3, none⟩ = false := blk_frozen hb0 3
  have d0 : w3.cell? ⟨w.heap.size + 1, 0, none⟩ = some (.int .i64 0) := blk_cell hb1 0
  have d1 : w3.cell? ⟨w.heap.size + 1, 1, none⟩ = some (.slice none 0 0) := blk_cell hb1 1
  have d2 : w3.cell? ⟨w.heap.size + 1, 2, none⟩ = some (.bool false) := blk_cell hb1 2
  have d3 : w3.cell? ⟨w.heap.size + 1, 3, none⟩ = some (.slice none 0 0) := blk_cell hb1 3
  have g0 : w3.frozen? ⟨w.heap.size + 1, 0, none⟩ = false := blk_frozen hb1 0
  have g1 : w3.frozen? ⟨w.heap.size + 1, 1, none⟩ = false := blk_frozen hb1 1
  have g2 : w3.frozen? ⟨w.heap.size + 1, 2, none⟩ = false := blk_frozen hb1 2
  have g3 : w3.frozen? ⟨w.heap.size + 1, 3, none⟩ = false := blk_frozen hb1 3
  have n1 : ¬ w.heap.size + 1 = w.heap.size := by omega
  clear hb0 hb1 ho hb3 hg3 hat3 hu3 hu13 hl2
  go_wp2_with fail
  refine bodyPost_ret (results_ctt rfl _ _ (w.heap.size + 1) 50 #[.int .i64 n, .slice Am mn cm, .bool false, .slice A3 l2.length c3] (0, 0) _ rfl (set4 (blk_far HB1'.out n1 _) rfl) Try.underlying50 rfl (by kernel_rfl)) rfl ?_
  rw [← HL2.out]
  have hX : Upd w3 _ (fun k => k < W1.heap.size) := upd4 w3 _ (fun k => k < W1.heap.size) ((Upd.refl w3 _).setCell (p := ⟨w.heap.size, 3, none⟩) (.inl (by show w.heap.size < _; omega)) (.slice A3 l2.length c3)) (w.heap.size + 1) (.inl (by omega)) (.int .i64 n) (.slice Am mn cm) (.bool false) (.slice A3 l2.length c3)
  exact ⟨_, rfl, Kd.R_mono (R_upd' HO3.out hX (fun k hk _ h => by omega)) (fun k hk => Nat.le_trans HU1.out.size hk), upd4 w _ _ ((HU1.out.step HU3.out).setCell (p := ⟨w.heap.size, 3, none⟩) (.inr (Nat.le_refl _)) _) (w.heap.size + 1) (.inr (by omega)) _ _ _ _⟩
set_option maxHeartbeats 20000000 in
theorem rdrop_yes (w : World) (n : Nat) (Am : Option Addr) (mn cm : Nat) (sh : Bool) (Al : Option Addr) (l : List Int) (cl : Nat) (id : Int) (h : ik.C w Al l.length l) (hc : l.length ≤ cl) (hll : l.length ≤ 1000000) (hin : hasB l id = true) :
    Calls Try.prog 25 #[.agg #[.int .i64 n, .slice Am mn cm, .bool sh, .slice Al l.length cl], .int .i64 id] w fun e w' => ∃ v, e = .returned (.tuple #[.agg #[.int .i64 n, .slice Am mn cm, .bool sh, v], .bool true]) ∧ ik.R 3 w' 0 (fun k => w.heap.size ≤ k) v (dropL l id) ∧ Upd w w' (fun _ => False) := by
  have hu50 := Try.underlying50
  have H := Aside0.mk h
  obtain ⟨k, hkl, hki, hkd⟩ := has_idx hin
  rw [hkd]
  have HI := Aside0.mk hki
  have b1 : decide ((k : Int) < 0) = false := by rw [decide_eq_false_iff_not]; omega
  obtain ⟨i, hi, hsz⟩ : ∃ i, Try.prog.info? 3 = some i ∧ i.size = 1 := ⟨_, rfl, rfl⟩
  have hc1 := cut_to (P := Try.prog) 30 3 .i64 Try.underlying30 hi Al l.length cl (k : Int) (by omega) (by omega) hc
  have hc2 := cut_from (P := Try.prog) 30 3 .i64 Try.underlying30 hi _ hsz Al l.length cl ((k : Int) + 1) (by omega) (by omega)
  rw [Int.toNat_natCast] at hc1
  rw [show ((k : Int) + 1).toNat = k + 1 by omega] at hc2
  have hcd := Kd.C_drop (m := k + 1) h (by omega) hc
  have hct := C_take h k
  have hlt : (l.take k).length = k := by rw [List.length_take]; omega
  have hld : (l.drop (k + 1)).length = l.length - (k + 1) := List.length_drop
  rw [hlt] at hct
  rw [hld] at hcd
  obtain ⟨A2, hA2⟩ : ∃ A2, A2 = (if cl = k + 1 then Al else Al.map (·.add ((k + 1) * 1))) := ⟨_, rfl⟩
  rw [← hA2] at hc2
  have hcd : ik.C w A2 (l.length - (k + 1)) (l.drop (k + 1)) := by rw [hA2]; exact hcd
  have HCD0 := Aside0.mk hcd
  have he : l.eraseIdx k = l.take k ++ l.drop (k + 1) := List.eraseIdx_eq_take_drop_succ ..
  obtain ⟨p1, hp1⟩ : ∃ p1, p1 = l.take k := ⟨_, rfl⟩
  obtain ⟨p2, hp2⟩ : ∃ p2, p2 = l.drop (k + 1) := ⟨_, rfl⟩
  rw [← hp1] at hct hlt he
  rw [← hp2] at HCD0 hld he
  have HCD := HCD0
  have HCT := Aside0.mk hct
  have HLT := Aside0.mk hlt
  have HLD := Aside0.mk hld
  have HE := Aside0.mk he
  have hpl1 : p1.length ≤ 1000000 := by omega
  clear h hin hki hkd hi hsz hcd hct hlt hld hA2 he hp1 hp2 HCD0
  go_enter Try.func25, Try.ntmps25
  go_wp2_with fail
  generalize hW : World.alloc _ _ = W1
  have hs1 : W1.heap.size = w.heap.size + 1 + 1 := by rw [← hW]; simp
  have HU1 : Aside0 (Upd w W1 (fun _ => False)) := ⟨by rw [← hW]; exact ((Upd.refl _ _).alloc _).alloc _⟩
  have hb0 : W1.heap[w.heap.size]? = some (.cells #[.int .i64 n, .slice Am mn cm, .bool sh, .slice Al l.length cl] 50 (0, 0)) := by rw [← hW]; exact blk_alloc (heap_alloc_new w _) _
  have hb1 : W1.heap[w.heap.size + 1]? = some (.cells #[.int .i64 0, .slice none 0 0, .bool false, .slice none 0 0] 50 (0, 0)) := by rw [← hW]; exact new2 _ _ _
  have HB0 := Aside0.mk hb0
  have HB1 := Aside0.mk hb1
  have hbel := HU1.out.to_below (Nat.le_refl _) (fun _ h => h.elim)
  have HC1 := Aside0.mk (Kd.C_below H.out hbel)
  have HCD1 := Aside0.mk (Kd.C_below HCD.out hbel)
  have HCT1 := Aside0.mk (Kd.C_below HCT.out hbel)
  have c3 : W1.cell? ⟨w.heap.size, 3, none⟩ = some (.slice Al l.length cl) := blk_cell hb0 3
  have f3 : W1.frozen? ⟨w.heap.size, 3, none⟩ = false := blk_frozen hb0 3
  have hl0 : w.heap.size < W1.heap.size := by omega
  have hl1 : w.heap.size + 1 < W1.heap.size := by omega
  have m1 : ¬ w.heap.size = W1.heap.size := by omega
  clear hW hb0 hb1 hs1 hbel H HCD HCT
  refine (has_calls Al cl l id _ HC1.out).mono ?_
  rw [HI.out]
  rintro e w' ⟨rfl, rfl⟩
  go_wp2_with fail
  obtain ⟨W2, hW2⟩ : ∃ W2, W2 = (W1.alloc (.cells #[] 3)).drew := ⟨_, rfl⟩
  have hu12 : Upd W1 W2 (fun _ => False) := by rw [hW2]; exact ((Upd.refl _ _).alloc _).drew
  have HO2 : Aside0 (ik.R 3 (W1.alloc (.cells #[] 3)).drew 0 (fun k => W1.heap.size ≤ k) (.slice (some ⟨W1.heap.size, 0, none⟩) 0 0) []) := ⟨Kd.R_mono (Kd.R_drew (R_litN .i64 W1 3 [] (by simp))) (fun k hk => by rw [hk]; exact Nat.le_refl _)⟩
  have HCT2 : Aside0 (ik.C (W1.alloc (.cells #[] 3)).drew Al k p1) := ⟨Kd.C_drew (Kd.C_alloc HCT1.out _)⟩
  have HF2 : Aside0 (∀ k, (W1.alloc (.cells #[] 3)).drew.heap.size ≤ k → W1.heap.size ≤ k) := ⟨fun k hk => Nat.le_trans (Upd.size ((Upd.refl W1 (fun _ => False)).alloc _)) hk⟩
  have HB2 : Aside0 (Below 0 W1 (W1.alloc (.cells #[] 3)).drew) := ⟨(Below.refl _ _).upd (Nat.zero_le _) ((Upd.refl W1 (fun _ => False)).alloc _).drew (fun _ h => h.elim)⟩
  have HL2 : Aside0 ((([] : List Int).length + k) * 8 ≤ 140737488355328) := ⟨by simp; omega⟩
  have HK2 : Aside0 (∀ (x : Int) (cs : List Value), cs = [Value.int .i64 x] → ik.M (W1.alloc (.cells #[] 3)).drew 0 (fun _ => False) x cs) := ⟨fun x cs h => h⟩
  have HL3 : Aside0 ((p1.length + (l.length - (k + 1))) * 8 ≤ 140737488355328) := ⟨by omega⟩
  clear hW2 hu12
  have hwk : IntKind.i64.wrap ((k : Int) + 1) = (k : Int) + 1 := IntWalk.i64_in _ (by omega)
  go_region_law
    (first
      | (refine Kd.R_append_rows_step ik (Rr := fun x cs => cs = [Value.int .i64 x]) (w0 := W1) 0 rfl (.tmp 14) (.tmp 18) 30 3 (.int .i64 0) 8 rfl Try.underlying30 SlI.info rfl (by decide) (by decide) (.slice (some ⟨W1.heap.size, 0, none⟩) 0 0) [] p1 Al k cl (fun k => W1.heap.size ≤ k) (fun _ => False) rfl rfl HO2.out HCT2.out HK2.out (fun _ h => h.elim) HF2.out HB2.out (Nat.zero_le _) HL2.out ?_; intro v3 w3 ho hb3 hg3 hat3; replace ho : ik.R 3 w3 0 (fun k => W1.heap.size ≤ k) v3 p1 := ho; obtain ⟨A3, c3', rfl⟩ := Kd.R_slice ho; have hu3 : Upd W1 w3 (fun _ => False) := (((Upd.refl W1 (fun _ => False)).alloc (.cells #[] 3)).drew).trans (Upd.of_grown (F := fun k => W1.heap.size ≤ k) hg3 (fun k hk => Nat.le_of_eq (by simpa [Value.ownBlock] using hk))) (fun k hk => .inr hk); have k3 := cell_upd0 hu3 c3; have HO3 := Aside0.mk ho; have HU3 := Aside0.mk hu3; have HCD3 := Aside0.mk (Kd.C_below HCD1.out (hu3.to_below (Nat.le_refl _) (fun _ h => h.elim))); have HF3 := Aside0.mk (fun k (hk : w3.heap.size ≤ k) => Nat.le_trans hu3.size hk); have HB3 := Aside0.mk ((Below.refl 0 W1).upd (Nat.zero_le _) hu3 (fun _ h => h.elim)); clear ho hb3 hg3 hat3 hu3)
      | (refine Kd.R_append_rows_step ik (Rr := fun x cs => cs = [Value.int .i64 x]) (w0 := W1) 0 rfl (.tmp 19) (.tmp 24) 30 3 (.int .i64 0) 8 rfl Try.underlying30 SlI.info rfl (by decide) (by decide) (.slice A3 p1.length c3') p1 p2 A2 (l.length - (k + 1)) (cl - (k + 1)) (fun k => W1.heap.size ≤ k) (fun _ => False) rfl rfl HO3.out HCD3.out (fun x cs h => h) (fun _ h => h.elim) HF3.out HB3.out (Nat.zero_le _) HL3.out ?_; intro v4 w4 ho hb4 hg4 hat4; obtain ⟨A4, c4, rfl⟩ := Kd.R_slice ho; have hu4 : Upd W1 w4 (fun _ => False) := HU3.out.trans (Upd.of_grown (F := fun k => W1.heap.size ≤ k) hg4 (fun k hk => HO3.out.1 k hk)) (fun k hk => .inr hk); have k4 := cell_upd0 hu4 c3; have HO4 := Aside0.mk ho; have HU4 := Aside0.mk hu4; have HB4 := Aside0.mk ((hu4.block (blk_lt HB0.out) (fun h => h)).trans HB0.out); have k5 := blk_frozen HB4.out 3; clear ho hb4 hg4 hat4 hu4))
  all_goals
    have n1 : ¬ w.heap.size + 1 = w.heap.size := by omega
    have hb1 := (HU4.out.block hl1 (fun h => h)).trans HB1.out
    have HB1' := Aside0.mk hb1
    have k0 : w4.cell? ⟨w.heap.size, 0, none⟩ = some (.int .i64 n) := blk_cell HB4.out 0
    have k1 : w4.cell? ⟨w.heap.size, 1, none⟩ = some (.slice Am mn cm) := blk_cell HB4.out 1
    have k2 : w4.cell? ⟨w.heap.size, 2, none⟩ = some (.bool sh) := blk_cell HB4.out 2
    have d0 : w4.cell? ⟨w.heap.size + 1, 0, none⟩ = some (.int .i64 0) := blk_cell hb1 0
    have d1 : w4.cell? ⟨w.heap.size + 1, 1, none⟩ = some (.slice none 0 0) := blk_cell hb1 1
    have d2 : w4.cell? ⟨w.heap.size + 1, 2, none⟩ = some (.bool false) := blk_cell hb1 2
    have d3 : w4.cell? ⟨w.heap.size + 1, 3, none⟩ = some (.slice none 0 0) := blk_cell hb1 3
    have g0 : w4.frozen? ⟨w.heap.size + 1, 0, none⟩ = false := blk_frozen hb1 0
    have g1 : w4.frozen? ⟨w.heap.size + 1, 1, none⟩ = false := blk_frozen hb1 1
    have g2 : w4.frozen? ⟨w.heap.size + 1, 2, none⟩ = false := blk_frozen hb1 2
    have g3 : w4.frozen? ⟨w.heap.size + 1, 3, none⟩ = false := blk_frozen hb1 3
    have HO4' : Aside0 (ik.R 3 w4 0 (fun k => W1.heap.size ≤ k) (.slice A4 (p1.length + p2.length) c4) (p1 ++ p2)) := ⟨by have := HO4.out; rw [List.length_append] at this; exact this⟩
    clear hb1 k3 c3 f3 HO4
    go_wp2_with fail
    have hX : Upd w4 _ (fun k => k < W1.heap.size) := upd4 w4 _ (fun k => k < W1.heap.size) ((Upd.refl w4 _).setCell (p := ⟨w.heap.size, 3, none⟩) (.inl hl0) (.slice A4 (p1.length + p2.length) c4)) (w.heap.size + 1) (.inl hl1) (.int .i64 n) (.slice Am mn cm) (.bool sh) (.slice A4 (p1.length + p2.length) c4)
    refine bodyPost_ret (results_ct rfl _ _ (w.heap.size + 1) 50 #[.int .i64 n, .slice Am mn cm, .bool sh, .slice A4 (p1.length + p2.length) c4] (0, 0) _ rfl (set4 (blk_far HB1'.out n1 _) rfl) Try.underlying50 rfl (by kernel_rfl)) rfl ?_
    rw [HE.out]
    exact ⟨_, rfl, Kd.R_mono (R_upd' HO4'.out hX (fun k hk _ h => by omega)) (fun k hk => Nat.le_trans HU1.out.size hk), upd4 w _ _ ((HU1.out.step HU4.out).setCell (p := ⟨w.heap.size, 3, none⟩) (.inr (Nat.le_refl _)) _) (w.heap.size + 1) (.inr (by omega)) _ _ _ _⟩
end Go.Proofs.Ytdmhlfjocajinaa.BdRef
