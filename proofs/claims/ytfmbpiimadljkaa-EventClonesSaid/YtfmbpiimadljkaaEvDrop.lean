import Derived.Test.YtfmbpiimadljkaaEv
import Derived.Lib.SliceRun
set_option linter.unusedVariables false
set_option linter.unusedSimpArgs false
namespace Go.Proofs.Ytfmbpiimadljkaa.EvDrop
open Go.RowKit Go.Proofs.YtfmbpiimadljkaaW.PrintWords Go.Proofs.Ytfmbpiimadljkaa.Own Go.Proofs.Ytfmbpiimadljkaa.Ev Go.Proofs.Ytfmbpiimadljkaa.SlI

theorem del_calls (p : Nat) (x id : Int) (w : World) (hc : w.cell? ⟨p, 0, none⟩ = some (.int .i64 id)) :
    Calls Try.prog 26 #[.int .i64 x, .pointer (some ⟨p, 0, none⟩)] w fun e w' => e = .returned (.bool (x == id)) ∧ w = w' := by
  go_enter Try.func26, Try.ntmps26
  go_wp2
  go_ret
  exact ⟨rfl, rfl⟩

set_option maxHeartbeats 400000 in
theorem indexf_calls (A : Option Addr) (c : Nat) (l : List Int) (p : Nat) (id : Int) (w : World) (hr : ints.C w A l.length l) (hc : w.cell? ⟨p, 0, none⟩ = some (.int .i64 id)) :
    Calls Try.prog 30 #[.slice A l.length c, .func (.func 26) #[] #[.pointer (some ⟨p, 0, none⟩)]] w fun e w' => e = .returned (.int .i64 (idx l id)) ∧ w = w' := by
  have HR := Aside0.mk hr
  have HC := Aside0.mk hc
  have hm := Kd.C_max hr
  clear hr hc
  go_enter Try.func30, Try.ntmps30
  go_wp2_with fail
  go_loop [5, 8] (fun _ i => ∃ k : Nat, k ≤ l.length ∧ i = .int .i64 k ∧ Aside0 (∀ j, j < k → rd l j ≠ id)) (fun _ i => l.length - (intOf i).toNat)
  case atStart => exact ⟨0, Nat.zero_le _, rfl, ⟨fun j hj => absurd hj (Nat.not_lt_zero _)⟩⟩
  case round =>
    obtain ⟨k, hk, rfl, HN⟩ := hrel
    by_cases hlt : k < l.length
    · obtain ⟨ad, rfl, hc⟩ := Kd.at_int HR.out (k : Int) (by omega) (by omega)
      rw [Int.toNat_natCast] at hc
      go_wp2_with fail
      refine (del_calls p _ id _ HC.out).mono ?_
      by_cases he : rd l k = id
      · rw [beq_iff_eq.mpr he]
        have HE := Aside0.mk (idx_found hlt he HN.out)
        clear he
        rintro e w' ⟨rfl, rfl⟩
        go_wp2_with fail
        go_ret
        exact ⟨by rw [HE.out]; rfl, rfl⟩
      · rw [beq_eq_false_iff_ne.mpr he]
        have HE := Aside0.mk he
        clear he
        rintro e w' ⟨rfl, rfl⟩
        go_wp2_with fail
        go_round
        case rel => exact ⟨k + 1, by omega, by go_num, ⟨fun j hj => by
          by_cases h : j = k
          · rw [h]; exact HE.out
          · exact HN.out j (by omega)⟩⟩
        case measure => simp [intOf]; omega
    · have HE := Aside0.mk (idx_none (l := l) (x := id) (fun j hj => HN.out j (by omega)))
      go_wp2_with fail
      go_ret
      exact ⟨by rw [HE.out]; rfl, rfl⟩

/-- All but those that are id. -/
def without (l : List Int) (id : Int) : List Int := l.filter (fun x => x != id)
theorem without_none {l : List Int} {id : Int} (h : idx l id = -1) : without l id = l := by
  unfold idx at h
  split at h
  · omega
  · rename_i h0
    rw [List.idxOf?_eq_none_iff] at h0
    unfold without
    rw [List.filter_eq_self]
    intro a ha
    rw [bne_iff_ne]
    rintro rfl
    exact h0 ha
theorem without_first {l : List Int} {id : Int} {k : Nat} (h : idx l id = k) : k < l.length ∧ (without (l.take (k + 1)) id).length = k ∧ without (l.take (k + 1)) id = l.take k := by
  unfold idx at h
  split at h
  · rename_i k' h0
    have hk : k' = k := by omega
    subst hk
    rw [List.idxOf?_eq_some_iff] at h0
    obtain ⟨hk, he, hn⟩ := h0
    have e : without (l.take (k' + 1)) id = l.take k' := by
      rw [List.take_succ_eq_append_getElem hk, without, List.filter_append, he]
      simp only [List.filter_cons, bne_self_eq_false, List.filter_nil, List.append_nil]
      simp only [Bool.false_eq_true, if_false, List.append_nil]
      rw [List.filter_eq_self]
      intro a ha
      obtain ⟨j, hj, rfl⟩ := List.getElem_of_mem ha
      rw [List.length_take] at hj
      rw [bne_iff_ne, List.getElem_take]
      exact hn j (by omega)
    exact ⟨hk, by rw [e, List.length_take]; omega, e⟩
  · omega
theorem without_eq {l : List Int} {id : Int} {j : Nat} (hj : j < l.length) (h : rd l j = id) : without (l.take (j + 1)) id = without (l.take j) id := by
  rw [List.take_succ_eq_append_getElem hj, without, List.filter_append]
  have : l[j] = id := by simpa [rd, List.getD, hj] using h
  rw [this]
  simp [without]
theorem without_ne {l : List Int} {id : Int} {j : Nat} (hj : j < l.length) (h : rd l j ≠ id) : without (l.take (j + 1)) id = without (l.take j) id ++ [rd l j] := by
  rw [List.take_succ_eq_append_getElem hj, without, List.filter_append]
  have : l[j] = rd l j := by simp [rd, List.getD, hj]
  rw [this]
  simp [without, h]
theorem without_len (l : List Int) (id : Int) : (without l id).length ≤ l.length := List.length_filter_le _ _

/-- What the loop holds. -/
def DSt (w wr : World) (g cap : Nat) (l : List Int) (id : Int) (i j : Nat) : Prop :=
  ∃ cur : Array Value, wr.heap[g]? = some (.cells cur 3 (0, 0)) ∧ cur.size = cap ∧ i = (without (l.take j) id).length ∧ cur.toList.take i = encs (Value.int .i64) (without (l.take j) id) ∧ (∀ t, j ≤ t → t < l.length → cur.toList[t]? = some (.int .i64 (rd l t))) ∧ Upd w wr (fun k => k = g)

theorem cur_get {cur : Array Value} {l : List Int} (h : cur.toList.take l.length = encs (Value.int .i64) l) : ∀ t, t < l.length → cur.toList[t]? = some (.int .i64 (rd l t)) := by
  intro t ht
  have h1 : (cur.toList.take l.length)[t]? = some (.int .i64 (rd l t)) := by rw [h, encs_get (d := (0 : Int)) l t ht]; rfl
  rwa [List.getElem?_take, if_pos ht] at h1

set_option maxHeartbeats 1000000 in
theorem deletef_calls (g cap : Nat) (l : List Int) (p : Nat) (id : Int) (w : World) (cur : Array Value) (hb : w.heap[g]? = some (.cells cur 3 (0, 0))) (hsz : cur.size = cap) (hle : l.length ≤ cap) (hcm : cap ≤ 9223372036854775807)
    (hcur : cur.toList.take l.length = encs (Value.int .i64) l) (hC : ints.C w (some ⟨g, 0, none⟩) l.length l) (hp : w.cell? ⟨p, 0, none⟩ = some (.int .i64 id)) (hpg : p ≠ g) :
    Calls Try.prog 25 #[.slice (some ⟨g, 0, none⟩) l.length cap, .func (.func 26) #[] #[.pointer (some ⟨p, 0, none⟩)]] w fun e w' => e = .returned (.slice (some ⟨g, 0, none⟩) (without l id).length cap) ∧ Upd w w' (fun k => k = g) ∧
      ∃ cur', w'.heap[g]? = some (.cells cur' 3 (0, 0)) ∧ cur'.size = cap ∧ cur'.toList.take (without l id).length = encs (Value.int .i64) (without l id) := by
  have HB := Aside0.mk hb
  have HS := Aside0.mk hsz
  have HQ := Aside0.mk hcur
  have HP := Aside0.mk hp
  have HC := Aside0.mk hC
  clear hb hsz hcur hp hC
  go_enter Try.func25, Try.ntmps25
  go_wp2_with fail
  refine (indexf_calls _ cap l p id w HC.out HP.out).mono ?_
  rintro e w' ⟨rfl, rfl⟩
  by_cases hi : idx l id = -1
  · have HW := Aside0.mk (without_none hi)
    rw [hi]
    clear hi
    go_wp2_with fail
    go_ret
    rw [HW.out]
    exact ⟨rfl, Upd.refl _ _, cur, HB.out, HS.out, HQ.out⟩
  · obtain ⟨k, hk⟩ : ∃ k : Nat, idx l id = k := ⟨(idx l id).toNat, by have := idx_range l id; omega⟩
    obtain ⟨hkl, hlen, hwo⟩ := without_first hk
    rw [hk]
    have hkb : ((k : Int) == -1) = false := by rw [beq_eq_false_iff_ne]; omega
    have hD : DSt w w g cap l id k (k + 1) := ⟨cur, HB.out, HS.out, hlen.symm, by
      have := HQ.out
      rw [hwo]
      have h2 := congrArg (List.take k) this
      rw [List.take_take, Nat.min_eq_left (by omega)] at h2
      rw [h2, encs, encs, List.map_take], fun t _ ht => cur_get HQ.out t ht, Upd.refl _ _⟩
    have HD := Aside0.mk hD
    clear hi hk hlen hwo hD HQ HB HS HC
    go_wp2_with fail
    go_loopg [5, 6, 7] l.length (fun gg vi vj v7 wr => ∃ i j : Nat, vi = .int .i64 i ∧ vj = .int .i64 j ∧ i < j ∧ j ≤ l.length ∧ l.length - j ≤ gg ∧ Aside0 (DSt w wr g cap l id i j))
    case atStart => exact ⟨k, k + 1, rfl, by go_num, by omega, by omega, by omega, HD⟩
    case round =>
      clear HD
      obtain ⟨i, j, rfl, rfl, hij, hj, hgg, HD⟩ := hrel
      obtain ⟨cur1, hb1, hs1, hi1, ht1, hu1, hup⟩ := HD.out
      have HP1 := Aside0.mk (cell_kept HP.out hup.kept hpg)
      have HU1 := Aside0.mk hup
      have HB1 := Aside0.mk hb1
      have HS1 := Aside0.mk hs1
      have HI1 := Aside0.mk hi1
      have HT1 := Aside0.mk ht1
      have HR1 := Aside0.mk hu1
      clear hb1 hs1 hi1 ht1 hu1 hup HD
      by_cases hlt : j < l.length
      · cases gk with
        | zero => omega
        | succ g1 =>
        have hcj : wr.cell? ⟨g, j, none⟩ = some (.int .i64 (rd l j)) := by
          rw [blk_cell HB1.out]
          have := HR1.out j (Nat.le_refl _) hlt
          rwa [Array.getElem?_toList] at this
        have b0 : (0 : Int) ≤ (j : Int) := by omega
        have b1 : (j : Int) < (l.length : Int) := by omega
        go_wp2_with fail
        refine (del_calls p _ id _ HP1.out).mono ?_
        by_cases he : rd l j = id
        · rw [beq_iff_eq.mpr he]
          have hwe := without_eq hlt he
          have HD2 : Aside0 (DSt w wr g cap l id i (j + 1)) := ⟨⟨cur1, HB1.out, HS1.out, by rw [hwe]; exact HI1.out, by rw [hwe]; exact HT1.out, fun t h1 h2 => HR1.out t (by omega) h2, HU1.out⟩⟩
          clear he hwe
          rintro e w' ⟨rfl, rfl⟩
          go_wp2_with fail
          go_roundg g1
          case rel => exact ⟨i, j + 1, rfl, by go_num, by omega, by omega, by omega, HD2⟩
          case measure => omega
        · rw [beq_eq_false_iff_ne.mpr he]
          have hwe := without_ne hlt he
          have hci : ∃ u, wr.cell? ⟨g, i, none⟩ = some u := by
            rw [blk_cell HB1.out]
            exact ⟨_, Array.getElem?_eq_getElem (by rw [HS1.out]; omega)⟩
          obtain ⟨u, hcu⟩ := hci
          have hfu : wr.frozen? ⟨g, i, none⟩ = false := blk_frozen HB1.out i
          have b2 : (0 : Int) ≤ (i : Int) := by omega
          have b3 : (i : Int) < (l.length : Int) := by omega
          have HD2 : Aside0 (DSt w (wr.setCell ⟨g, i, none⟩ (.int .i64 (rd l j))) g cap l id (i + 1) (j + 1)) := ⟨by
            refine ⟨_, blk_set HB1.out i _, by simpa using HS1.out, by rw [hwe, List.length_append, ← HI1.out]; rfl, ?_, fun t h1 h2 => ?_, HU1.out.setCell (.inl rfl) _⟩
            · rw [hwe, encs_append, ← HT1.out, Array.toList_setIfInBounds]
              have hil : i < cur1.toList.length := by rw [Array.length_toList, HS1.out]; omega
              rw [List.take_succ_eq_append_getElem (by simpa using hil), List.take_set, List.getElem_set_self]
              rw [List.set_eq_of_length_le (by simp; omega)]
              rfl
            · rw [Array.toList_setIfInBounds, List.getElem?_set_ne (by omega)]
              exact HR1.out t (by omega) h2⟩
          clear he hwe
          rintro e w' ⟨rfl, rfl⟩
          go_wp2_with fail
          go_roundg g1
          case rel => exact ⟨i + 1, j + 1, by go_num, by go_num, by omega, by omega, by omega, HD2⟩
          case measure => omega
      · have hjl : j = l.length := by omega
        subst hjl
        have hcl : ∀ ty, (Builtin.clear_ #[22] ty #[.slice (some ⟨g, i, none⟩) (l.length - i) (cap - i)]).run Try.prog wr = .ok (.tuple #[]) (wr.setCells g i (List.replicate (l.length - i) (.int .i64 0))) := fun ty =>
          Lib.run_clear_slice wr _ 3 ty _ Try.underlying22 Try.zeroValue3 rfl rfl g i (l.length - i) (cap - i) (by omega)
            (fun t ht => by rw [blk_cell HB1.out, Array.getElem?_eq_getElem (by rw [HS1.out]; omega)]; rfl) (fun t ht => blk_frozen HB1.out _)
        obtain ⟨W2, hW2⟩ : ∃ W2, W2 = wr.setCells g i (List.replicate (l.length - i) (.int .i64 0)) := ⟨_, rfl⟩
        rw [← hW2] at hcl
        have hU2 : Aside0 (Upd w W2 (fun k => k = g)) := ⟨by
          rw [hW2]
          obtain ⟨h1, h2, h3, h4⟩ := setCells_same g (List.replicate (l.length - i) (.int .i64 0)) i wr
          exact HU1.out.trans (G := fun k => k = g) ⟨h1, h2, h3, by rw [h4]; exact Nat.le_refl _, fun k _ hn => setCells_far _ _ k hn⟩ (fun _ hk => .inl hk)⟩
        have hB2 : Aside0 (∃ cur', W2.heap[g]? = some (.cells cur' 3 (0, 0)) ∧ cur'.size = cap ∧ cur'.toList.take i = cur1.toList.take i) := ⟨by
          obtain ⟨cur', h1, h2, h3⟩ := setCells_row (List.replicate (l.length - i) (.int .i64 0)) i wr cur1 HB1.out (by rw [HS1.out, List.length_replicate]; omega)
          rw [← hW2] at h1
          refine ⟨cur', h1, h2.trans HS1.out, ?_⟩
          have hil : i ≤ cur1.toList.length := by rw [Array.length_toList, HS1.out]; omega
          rw [h3, List.append_assoc, List.take_append_of_le_length (by rw [List.length_take]; omega), List.take_take, Nat.min_self]⟩
        have hic : ¬ cap = i := by omega
        have hfin : Aside0 (i = (without l id).length ∧ cur1.toList.take i = encs (Value.int .i64) (without l id)) := ⟨by
          have h1 := HI1.out
          have h2 := HT1.out
          rw [List.take_length] at h1 h2
          exact ⟨h1, h2⟩⟩
        clear hW2 HR1 HI1 HT1 HB1 HS1 HU1 HP1
        have b0 : (0 : Int) ≤ (i : Int) := by omega
        have b1 : (i : Int) ≤ (l.length : Int) := by omega
        go_wp2_with fail
        go_ret
        rw [← hfin.out.1]
        obtain ⟨cur', h1, h2, h3⟩ := hB2.out
        exact ⟨rfl, hU2.out, cur', h1, h2, h3.trans hfin.out.2⟩

theorem deletef_none (A : Option Addr) (c : Nat) (l : List Int) (p : Nat) (id : Int) (w : World) (hC : ints.C w A l.length l) (hp : w.cell? ⟨p, 0, none⟩ = some (.int .i64 id)) (hi : idx l id = -1) :
    Calls Try.prog 25 #[.slice A l.length c, .func (.func 26) #[] #[.pointer (some ⟨p, 0, none⟩)]] w fun e w' => e = .returned (.slice A l.length c) ∧ w = w' := by
  have HP := Aside0.mk hp
  have HC := Aside0.mk hC
  have HI := Aside0.mk hi
  clear hp hC hi
  go_enter Try.func25, Try.ntmps25
  go_wp2_with fail
  refine (indexf_calls _ c l p id w HC.out HP.out).mono ?_
  rw [HI.out]
  rintro e w' ⟨rfl, rfl⟩
  go_wp2_with fail
  go_ret
  exact ⟨rfl, rfl⟩

theorem without_has (l : List Int) (id : Int) : decide ((without l id).length < l.length) = hasB l id := by
  unfold without hasB
  by_cases h : id ∈ l
  · have h1 : (l.filter (fun x => x != id)).length < l.length := by
      have := List.length_filter_lt_length_iff_exists (p := fun x => x != id) (l := l)
      exact this.2 ⟨id, h, by simp⟩
    rw [List.contains_iff_mem.2 h, decide_eq_true_eq]
    exact h1
  · have h1 : l.filter (fun x => x != id) = l := by
      rw [List.filter_eq_self]
      intro a ha
      rw [bne_iff_ne]
      rintro rfl
      exact h ha
    rw [h1]
    have h2 : l.contains id = false := by rw [← Bool.not_eq_true, List.contains_iff_mem]; exact h
    rw [h2, decide_eq_false_iff_not]
    omega

set_option maxHeartbeats 1000000 in
/-- Drop: one waits no more; whether it did. -/
theorem drop_calls (w : World) (F : Nat → Prop) (b : Nat) (up : Bool) (l : List Int) (id : Int) (h : At w F b up l) :
    Calls Try.prog 17 #[.pointer (some ⟨b, 0, none⟩), .int .i64 id] w fun e w' => e = .returned (.bool (hasB l id)) ∧ At w' F b up (without l id) ∧ Upd w w' F := by
  have hlt := h.lt
  have HA := Aside0.mk h
  obtain ⟨hF, A, c, hb, hr⟩ := at_open h
  clear h
  have hcmx := (Kd.R_reads' hr).2.1
  have hrd := (Kd.R_reads' hr).2.2
  have HR := Aside0.mk hr
  have hmx := Kd.C_max hrd
  have c1 : w.cell? ⟨b, 1, none⟩ = some (.slice A l.length c) := blk_cell hb 1
  have f1 : w.frozen? ⟨b, 1, none⟩ = false := blk_frozen hb 1
  have HBk := Aside0.mk hb
  have HRd := Aside0.mk hrd
  clear hb hrd
  have hne : b ≠ w.heap.size := by omega
  by_cases hi : idx l id = -1
  · have HI := Aside0.mk hi
    have HW := Aside0.mk (without_none hi)
    have hhas : hasB l id = false := by
      rw [← idx_nonneg, hi]
      rfl
    have HH := Aside0.mk hhas
    have hlt2 : ¬ ((l.length : Int) < (l.length : Int)) := by omega
    clear hi hhas hr
    go_enter Try.func17, Try.ntmps17
    go_wp2_with fail
    refine (deletef_none A c l w.heap.size id _ (Kd.C_alloc HRd.out _) (by simp) HI.out).mono ?_
    rintro e w' ⟨rfl, rfl⟩
    go_wp2_with fail
    go_ret
    rw [HH.out, HW.out]
    exact ⟨rfl, (at_mk hF (blk_set HBk.out 1 _) (Kd.R_mono (Kd.R_far (p := ⟨b, 1, none⟩) HR.out (fun k hk => hk.2) _) (fun k hk => hk.1))).alloc _, ((Upd.refl w F).setCell (.inl hF) _).alloc _⟩
  · have hpos : 0 < l.length := by
      rcases Nat.eq_zero_or_pos l.length with h0 | h0
      · exact absurd (by rw [List.eq_nil_of_length_eq_zero h0]; rfl) hi
      · exact h0
    have hown := Kd.own_of_R hr
    rcases hown.2 with ⟨_, h0⟩ | ⟨g, cap, cur, hv, _, hg, hnc, hcm, hcs, htk⟩
    · omega
    obtain ⟨rfl, rfl⟩ : A = some ⟨g, 0, none⟩ ∧ c = cap := by injection hv with h1 _ h2; exact ⟨h1, h2⟩
    have hgb : g ≠ b := by
      rintro rfl
      have h1 := HBk.out
      rw [hg] at h1
      injection h1 with h1
      injection h1 with _ h1
      exact absurd h1 (by decide)
    have hgF : F g := (HR.out.1 g rfl).1
    have hgl : g < w.heap.size := blk_lt hg
    have hng : w.heap.size ≠ g := by omega
    have hdec := without_has l id
    have HDec := Aside0.mk hdec
    have hcap : c ≤ 9223372036854775807 := by simp only [maxLen] at hcm; omega
    have HG := Aside0.mk hg
    have HCs := Aside0.mk (show cur.size = c by simpa using hcs)
    have HTk := Aside0.mk (show cur.toList.take l.length = encs (Value.int .i64) l by simpa using htk)
    clear hg hcs htk hi hown hv hr hdec hnc hcm
    go_enter Try.func17, Try.ntmps17
    go_wp2_with fail
    refine (deletef_calls g c l w.heap.size id _ cur (blk_alloc HG.out _) HCs.out hcmx hcap HTk.out (Kd.C_alloc HRd.out _) (by simp) hng).mono ?_
    rintro e w1 ⟨rfl, hu1, cur1, hg1, hs1, ht1⟩
    have hbk1 : w1.heap[b]? = some (.cells #[.bool up, .slice (some ⟨g, 0, none⟩) l.length c] 45 (0, 0)) :=
      (hu1.block (by simp; omega) (Ne.symm hgb)).trans (blk_alloc HBk.out _)
    have hu2 : Upd w w1 F := ((Upd.refl w F).alloc _).trans hu1 (fun k hk => by rw [hk]; exact .inl hgF)
    obtain ⟨l2, hl2⟩ : ∃ l2, l2 = without l id := ⟨_, rfl⟩
    rw [← hl2] at ht1 HDec
    have hr2 : ints.R 3 w1 0 (fun k => F k ∧ k ≠ b) (.slice (some ⟨g, 0, none⟩) l2.length c) l2 := Kd.R_of_own ⟨by simp [encs], .inr ⟨g, c, cur1, rfl, Nat.zero_le _, hg1, by rw [hl2]; exact Nat.le_trans (without_len l id) hcmx, by simp only [maxLen]; omega, by simpa using hs1, by simpa using ht1⟩⟩
      (fun k hk => by
        have : g = k := by simpa [Value.ownBlock] using hk
        subst this
        exact ⟨hgF, hgb⟩)
    have d1 : w1.cell? ⟨b, 1, none⟩ = some (.slice (some ⟨g, 0, none⟩) l.length c) := blk_cell hbk1 1
    have d2 : w1.frozen? ⟨b, 1, none⟩ = false := blk_frozen hbk1 1
    have HU2 := Aside0.mk hu2
    have HR2 := Aside0.mk hr2
    have HB1 := Aside0.mk hbk1
    have hlen2 : l2.length ≤ l.length := by rw [hl2]; exact without_len l id
    have HL2 := Aside0.mk hl2
    clear hu1 hu2 hr2 hbk1 hl2 hg1 hs1 ht1 c1 f1
    go_wp2_with fail
    go_ret
    rw [← HDec.out, ← HL2.out]
    refine ⟨rfl, ?_, HU2.out.setCell (.inl hF) _⟩
    exact at_mk hF (blk_set HB1.out 1 _) (Kd.R_mono (Kd.R_far (p := ⟨b, 1, none⟩) HR2.out (fun k hk => hk.2) _) (fun k hk => hk.1))
end Go.Proofs.Ytfmbpiimadljkaa.EvDrop
