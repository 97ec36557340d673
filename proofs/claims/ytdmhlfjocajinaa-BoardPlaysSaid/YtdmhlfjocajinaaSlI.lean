import Derived.Test.YtdmhlfjocajinaaOwn
import Derived.WalkSpells
set_option linter.unusedVariables false
set_option linter.unusedSimpArgs false
namespace Go.Proofs.Ytdmhlfjocajinaa.SlI
open Go.RowKit Go.Proofs.YtdmhlfjocajinaaW.PrintWords Go.Proofs.Ytdmhlfjocajinaa.Own

abbrev nk : Kd Int := Kd.int .i64
theorem info : (Try.prog.info? 3).map (fun i => (i.zero, i.size, i.bytes)) = some (some (.int .i64 0), 1, 8) := by kernel_rfl

/-- slices.Index: the first place, or -1. -/
def idx (l : List Int) (x : Int) : Int := match l.idxOf? x with | some k => (k : Int) | none => -1

theorem idx_found {l : List Int} {x : Int} {k : Nat} (hk : k < l.length) (he : rd l k = x) (hn : ∀ j, j < k → rd l j ≠ x) : idx l x = k := by
  have hh : l.idxOf? x = some k := by
    rw [List.idxOf?_eq_some_iff]
    refine ⟨hk, ?_, ?_⟩
    · simpa [rd, List.getD, hk] using he
    · intro j hj
      have := hn j hj
      simpa [rd, List.getD, Nat.lt_trans hj hk] using this
  simp [idx, hh]
theorem idx_none {l : List Int} {x : Int} (hn : ∀ j, j < l.length → rd l j ≠ x) : idx l x = -1 := by
  have hh : l.idxOf? x = none := by
    rw [List.idxOf?_eq_none_iff]
    intro hx
    obtain ⟨j, hj, rfl⟩ := List.getElem_of_mem hx
    exact hn j hj (by simp [rd, List.getD, hj])
  simp [idx, hh]
theorem idx_nonneg (l : List Int) (x : Int) : decide (0 ≤ idx l x) = hasB l x := by
  unfold idx hasB
  cases h : l.idxOf? x with
  | none =>
    rw [List.idxOf?_eq_none_iff] at h
    simp [h]
  | some k =>
    rw [List.idxOf?_eq_some_iff] at h
    obtain ⟨hk, he, _⟩ := h
    have : x ∈ l := by rw [← he]; exact List.getElem_mem hk
    simp [this]
theorem idx_range (l : List Int) (x : Int) : -1 ≤ idx l x ∧ idx l x < l.length := by
  unfold idx
  cases h : l.idxOf? x with
  | none => simp; omega
  | some k =>
    rw [List.idxOf?_eq_some_iff] at h
    obtain ⟨hk, _, _⟩ := h
    simp; omega

set_option maxHeartbeats 400000 in
theorem index_calls (A : Option Addr) (c : Nat) (l : List Int) (x : Int) (w : World) (hr : nk.C w A l.length l) :
    Calls Try.prog 31 #[.slice A l.length c, .int .i64 x] w fun e w' => e = .returned (.int .i64 (idx l x)) ∧ w = w' := by
  have HR := Aside0.mk hr
  have hm := Kd.C_max hr
  clear hr
  go_enter Try.func31, Try.ntmps31
  go_wp2
  go_loop [5, 8] (fun _ i => ∃ k : Nat, k ≤ l.length ∧ i = .int .i64 k ∧ Aside0 (∀ j, j < k → rd l j ≠ x)) (fun _ i => l.length - (intOf i).toNat)
  case atStart => exact ⟨0, Nat.zero_le _, rfl, ⟨fun j hj => absurd hj (Nat.not_lt_zero _)⟩⟩
  case round =>
    obtain ⟨k, hk, rfl, HN⟩ := hrel
    by_cases hlt : k < l.length
    · obtain ⟨ad, rfl, hc⟩ := Kd.at_int HR.out (k : Int) (by omega) (by omega)
      rw [Int.toNat_natCast] at hc
      by_cases he : rd l k = x
      · have hb : (x == rd l k) = true := beq_iff_eq.mpr he.symm
        have HE := Aside0.mk (idx_found hlt he HN.out)
        clear he
        go_wp2
        go_ret
        exact ⟨by rw [HE.out]; rfl, rfl⟩
      · have hb : (x == rd l k) = false := beq_eq_false_iff_ne.mpr (Ne.symm he)
        have HE := Aside0.mk he
        clear he
        go_wp2
        go_round
        case rel => exact ⟨k + 1, by omega, by go_num, ⟨fun j hj => by
          by_cases h : j = k
          · rw [h]; exact HE.out
          · exact HN.out j (by omega)⟩⟩
        case measure => simp [intOf]; omega
    · have HE := Aside0.mk (idx_none (l := l) (x := x) (fun j hj => HN.out j (by omega)))
      go_wp2
      go_ret
      exact ⟨by rw [HE.out]; rfl, rfl⟩

theorem contains_calls (A : Option Addr) (c : Nat) (l : List Int) (x : Int) (w : World) (hr : nk.C w A l.length l) :
    Calls Try.prog 19 #[.slice A l.length c, .int .i64 x] w fun e w' => e = .returned (.bool (hasB l x)) ∧ w = w' := by
  rw [← idx_nonneg]
  have HR := Aside0.mk hr
  clear hr
  go_enter Try.func19, Try.ntmps19
  go_wp2_with (go_at_call 31; refine (index_calls A c l x _ HR.out).mono ?_; rintro e w' ⟨rfl, rfl⟩)
  go_ret
  exact ⟨rfl, rfl⟩

theorem clone_calls (A : Option Addr) (c : Nat) (l : List Int) (w : World) (hr : nk.C w A l.length l) (hl : l.length ≤ 1000000000000) :
    Calls Try.prog 30 #[.slice A l.length c] w fun e w' => ∃ v, e = .returned v ∧ nk.R 3 w' 0 (fun k => w.heap.size ≤ k) v l ∧ Upd w w' (fun _ => False) := by
  have HR := Aside0.mk hr
  have q22 : ∀ (w : World) (a : Option Addr) (n c n' c' : Nat), (binOp .eql 30 (.slice a n c) (.slice none n' c')).run Try.prog w = .ok (.bool a.isNone) w := fun w a n c n' c' => Lib.run_eql_slice_nil w _ _ a n c n' c' Try.underlying30
  cases A with
  | none =>
    have h0 : l = [] := by
      cases l with
      | nil => rfl
      | cons y r =>
        obtain ⟨ad, h, _⟩ := hr.2.2 (by simp)
        cases h
    subst h0
    clear hr
    go_enter Try.func30, Try.ntmps30
    go_wp2_with fail
    go_ret
    exact ⟨_, rfl, Kd.R_nil _ _ _ _ _, Upd.refl _ _⟩
  | some ad =>
    clear hr
    go_enter Try.func30, Try.ntmps30
    go_wp2_with (at_builtin; refine Kd.R_append_rows nk (Rr := fun x cs => cs = [Value.int .i64 x]) (w0 := w) 0 rfl (.tmp 5) (.tmp 6) 30 3 (.int .i64 0) 8 rfl Try.underlying30 info rfl (by decide) (by omega) (.slice (some ⟨w.heap.size, 0, none⟩) 0 0) [] l (some ad) l.length c (fun k => w.heap.size ≤ k) (fun _ => False) rfl rfl ?aO ?aR ?aK (fun _ hk => hk.elim) ?aF ?aB ?aS ?aL ?_)
    case aO =>
      refine ⟨fun k hk => ?_, [], World.ownsRow_made w #[] 0 (Nat.zero_le _) (Nat.zero_le _) (by simp), Reps.none _ _⟩
      have : w.heap.size = k := by simpa [Value.ownBlock] using hk
      omega
    case aR => exact Kd.C_alloc HR.out _
    case aK => exact fun x cs h => h
    case aF => intro k hk; simp at hk; omega
    case aB => exact (Below.refl _ _).alloc (Nat.zero_le _) _
    case aS => omega
    case aL => simp; omega
    intro v1 w1 ho hb1 hg hat
    have hu : Upd w w1 (fun _ => False) := ((Upd.refl w (fun _ => False)).alloc _).grown hg (fun k hk => by
      have : w.heap.size = k := by simpa [Value.ownBlock] using hk
      right; omega)
    have HU := Aside0.mk hu
    have HO := Aside0.mk ho
    clear hb1 hg hat hu ho
    go_wp2
    go_ret
    exact ⟨_, rfl, HO.out, HU.out⟩
end Go.Proofs.Ytdmhlfjocajinaa.SlI
