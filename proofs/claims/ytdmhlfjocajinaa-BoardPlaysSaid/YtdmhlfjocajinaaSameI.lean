import Derived.Test.YtdmhlfjocajinaaOwn
set_option linter.unusedVariables false
set_option linter.unusedSimpArgs false
namespace Go.Proofs.Ytdmhlfjocajinaa.SameI
open Go.RowKit Go.Proofs.YtdmhlfjocajinaaW.PrintWords Go.Proofs.Ytdmhlfjocajinaa.Own
abbrev nk : Kd Int := Kd.int .i64

theorem same_of {a b : List Int} (hl : a.length = b.length) (h : ∀ j : Nat, j < a.length → rd a j = rd b j) : eqB a b = true := by
  unfold eqB
  rw [decide_eq_true_eq]
  apply List.ext_getElem hl
  intro i h1 h2
  have := h i h1
  simpa [rd, List.getD, h1, h2] using this
theorem same_not {a b : List Int} {j : Nat} (h : rd a j ≠ rd b j) : eqB a b = false := by
  unfold eqB
  rw [decide_eq_false_iff_not]
  rintro rfl
  exact h rfl

set_option maxHeartbeats 400000 in
/-- 'slices.Equal[[]int,int]': the same numbers? -/
theorem same_calls (A : Option Addr) (c : Nat) (a : List Int) (B : Option Addr) (d : Nat) (b : List Int) (w : World) (ha : nk.C w A a.length a) (hb : nk.C w B b.length b) :
    Calls Try.prog 18 #[.slice A a.length c, .slice B b.length d] w fun e w' => e = .returned (.bool (eqB a b)) ∧ ∃ q, w' = w.drewN q := by
  have HA := Aside0.mk ha
  have HB := Aside0.mk hb
  have hma := Kd.C_max ha
  have hmb := Kd.C_max hb
  clear ha hb
  by_cases hl : a.length = b.length
  · have HL := Aside0.mk hl
    have hlb : ((a.length : Int) != (b.length : Int)) = false := by rw [bne_eq_false_iff_eq]; omega
    have hll : ∀ k : Nat, k < a.length → k < b.length := fun k hk => by omega
    have HLL := Aside0.mk hll
    clear hl hll
    go_enter Try.func18, Try.ntmps18
    go_wp2
    go_loopg [5,13] a.length (fun g _ i wr => ∃ k q : Nat, k ≤ a.length ∧ a.length - k ≤ g ∧ i = .int .i64 k ∧ wr = w.drewN q ∧ Aside0 (∀ j : Nat, j < k → rd a j = rd b j))
    case atStart => exact ⟨0, 0, Nat.zero_le _, by omega, rfl, rfl, ⟨fun j hj => absurd hj (Nat.not_lt_zero _)⟩⟩
    case round =>
      obtain ⟨k, q, hk, hg, rfl, rfl, HN⟩ := hrel
      by_cases hlt : k < a.length
      · have hltb := HLL.out k hlt
        obtain ⟨ad, rfl, hc⟩ := Kd.at_int HA.out (k : Int) (by omega) (by omega)
        obtain ⟨bd, rfl, hd⟩ := Kd.at_int HB.out (k : Int) (by omega) (by omega)
        rw [Int.toNat_natCast] at hc hd
        have i0 : (0 : Int) ≤ (k : Int) := by omega
        have i1 : (k : Int) < (a.length : Int) := by omega
        have i2 : (k : Int) < (b.length : Int) := by omega
        cases gk with
        | zero => omega
        | succ g1 =>
        by_cases he : rd a k = rd b k
        · have hb : (rd a k != rd b k) = false := bne_eq_false_iff_eq.mpr he
          have HE := Aside0.mk he
          clear he
          go_wp2
          go_quiet (fail)
          go_wp2
          go_roundg g1
          case rel => exact ⟨k + 1, _, by omega, by omega, by go_num, rfl, ⟨fun j hj => by
            by_cases h : j = k
            · rw [h]; exact HE.out
            · exact HN.out j (by omega)⟩⟩
          case measure => omega
        · have hb : (rd a k != rd b k) = true := bne_iff_ne.mpr he
          have HE := Aside0.mk (same_not he)
          clear he
          go_wp2
          go_quiet (fail)
          go_wp2
          go_ret
          exact ⟨by rw [HE.out]; rfl, _, World.drewN_drewN ..⟩
      · have HE := Aside0.mk (same_of HL.out (fun j hj => HN.out j (by omega)))
        go_wp2
        go_ret
        exact ⟨by rw [HE.out]; rfl, q, rfl⟩
  · have hlb : ((a.length : Int) != (b.length : Int)) = true := by rw [bne_iff_ne]; omega
    have HE : Aside0 (eqB a b = false) := ⟨by unfold eqB; rw [decide_eq_false_iff_not]; rintro rfl; exact hl rfl⟩
    clear hl
    go_enter Try.func18, Try.ntmps18
    go_wp2
    go_ret
    exact ⟨by rw [HE.out]; rfl, 0, rfl⟩
end Go.Proofs.Ytdmhlfjocajinaa.SameI
