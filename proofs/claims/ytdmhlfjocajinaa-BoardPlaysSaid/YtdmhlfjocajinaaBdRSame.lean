import Derived.Test.YtdmhlfjocajinaaBdMade
import Derived.IntWalk
set_option linter.unusedVariables false
set_option linter.unusedSimpArgs false
namespace Go.Proofs.Ytdmhlfjocajinaa.BdRSame
attribute [local go_sem ↓] Go.wp_at_zero Go.wp_at_succ
open Go.RowKit Go.Proofs.YtdmhlfjocajinaaW.PrintWords Go.Proofs.Ytdmhlfjocajinaa.Own Go.Proofs.Ytdmhlfjocajinaa.Own2 Go.Proofs.Ytdmhlfjocajinaa.Own3 Go.Proofs.Ytdmhlfjocajinaa.Board Go.Proofs.Ytdmhlfjocajinaa.BdRef Go.Proofs.Ytdmhlfjocajinaa.BdOp Go.Proofs.Ytdmhlfjocajinaa.BdMade Go.Proofs.Ytdmhlfjocajinaa.PBoardSame

theorem wrap_nat (j : Nat) (h : j ≤ 1000000) : wrap64 ((j : Int) + 1) = ((j + 1 : Nat) : Int) := by
  unfold wrap64
  omega
theorem eq_l0 (a b : List Int) (hl : a.length = b.length) (ha : a.length ≤ 100000) : ∀ (k j : Nat), j ≤ a.length → a.length < k + j → (∀ i : Nat, i < j → rd a i = rd b i) → monocoqueref25_Equal.l0 k a b j = some (eqB a b) := by
  intro k
  induction k with
  | zero => intro j h1 h2; omega
  | succ k ih =>
    intro j h1 h2 h3
    unfold monocoqueref25_Equal.l0
    by_cases hj : j < a.length
    · rw [if_pos (by omega), if_pos (by omega), if_pos (by omega)]
      by_cases he : rd a j = rd b j
      · rw [if_pos he, wrap_nat j (by omega)]
        exact ih (j + 1) (by omega) (by omega) (fun i hi => by
          by_cases h : i = j
          · rw [h]; exact he
          · exact h3 i (by omega))
      · rw [if_neg he, SameU.same_not he]
    · rw [if_neg (by omega), SameU.same_of hl (fun i hi => h3 i (by omega))]
theorem equal_f (a b : List Int) (ha : a.length ≤ 100000) (k : Nat) (hk : a.length < k) : monocoqueref25_Equal.f k a b = some (eqB a b) := by
  unfold monocoqueref25_Equal.f
  by_cases hl : a.length = b.length
  · rw [if_pos (by omega)]
    exact eq_l0 a b hl ha k 0 (Nat.zero_le _) (by omega) (fun i hi => absurd hi (Nat.not_lt_zero _))
  · rw [if_neg (by omega), show eqB a b = false by
      unfold eqB
      rw [decide_eq_false_iff_not]
      rintro rfl
      exact hl rfl]
theorem same_l0 (x0 : Int) (x1 : List Int) (x2 : Bool) (a : List Int) (y0 : Int) (y1 : List Int) (y2 : Bool) (b : List Int) (hl : a.length = b.length) (ha : a.length ≤ 100000) : ∀ (k j : Nat), j ≤ a.length → a.length < k + j → (∀ i : Nat, i < j → rd a i = rd b i) → monocoqueref25_Same.l0 k j x0 x1 x2 a y0 y1 y2 b = some (eqB a b) := by
  intro k
  induction k with
  | zero => intro j h1 h2; omega
  | succ k ih =>
    intro j h1 h2 h3
    unfold monocoqueref25_Same.l0
    by_cases hj : j < a.length
    · rw [if_pos (by omega), if_pos (by omega), if_pos (by omega)]
      by_cases he : rd a j = rd b j
      · rw [if_pos he, wrap_nat j (by omega)]
        exact ih (j + 1) (by omega) (by omega) (fun i hi => by
          by_cases h : i = j
          · rw [h]; exact he
          · exact h3 i (by omega))
      · rw [if_neg he, SameU.same_not he]
    · rw [if_neg (by omega), SameU.same_of hl (fun i hi => h3 i (by omega))]
theorem same_j0 (k : Nat) (t : Bool) (x0 : Int) (x1 : List Int) (x2 : Bool) (a : List Int) (y0 : Int) (y1 : List Int) (y2 : Bool) (b : List Int) (ht : t = ((a.length : Int) != (b.length : Int))) (ha : a.length ≤ 100000) (hk : a.length < k) : monocoqueref25_Same.j0 (k + 1) t x0 x1 x2 a y0 y1 y2 b = some (eqB a b) := by
  have e : monocoqueref25_Same.j0 (k + 1) t x0 x1 x2 a y0 y1 y2 b = if t = true then some false else monocoqueref25_Same.l0 k 0 x0 x1 x2 a y0 y1 y2 b := rfl
  rw [e]
  subst ht
  by_cases hl : a.length = b.length
  · rw [if_neg (by simp [hl])]
    exact same_l0 x0 x1 x2 a y0 y1 y2 b hl ha k 0 (Nat.zero_le _) (by omega) (fun i hi => absurd hi (Nat.not_lt_zero _))
  · rw [if_pos (by simp; omega), show eqB a b = false by
      unfold eqB
      rw [decide_eq_false_iff_not]
      rintro rfl
      exact hl rfl]
theorem same_f (n : Nat) (m : List Int) (sh : Bool) (l : List Int) (n' : Nat) (m' : List Int) (sh' : Bool) (l' : List Int) (hm : m.length ≤ 1000) (hl : l.length ≤ 1000) : monocoqueref25_Same.f 2000 n m sh l n' m' sh' l' = some (sameB n n' sh sh' m m' l l') := by
  unfold monocoqueref25_Same.f sameB
  by_cases hn : n = n'
  · subst hn
    rw [if_pos rfl]
    by_cases hs : sh = sh'
    · subst hs
      rw [if_neg (by simp), equal_f m m' (by omega) 2000 (by omega)]
      cases he : eqB m m' with
      | true =>
        simp only [Option.bind_some, if_true]
        rw [same_j0 1999 _ _ _ _ l _ _ _ l' rfl (by omega) (by omega)]
        simp
      | false =>
        simp [monocoqueref25_Same.j0]
    · rw [if_pos (by simpa using hs)]
      simp [monocoqueref25_Same.j0, hs]
  · rw [if_neg (by omega)]
    simp [monocoqueref25_Same.j0, hn]
theorem rsame_calls (w : World) (n : Nat) (Am : Option Addr) (cm : Nat) (m : List Int) (sh : Bool) (Al : Option Addr) (cl : Nat) (l : List Int) (n' : Nat) (Am' : Option Addr) (cm' : Nat) (m' : List Int) (sh' : Bool) (Al' : Option Addr) (cl' : Nat) (l' : List Int)
    (h1 : uk.C w Am m.length m) (h2 : m.length ≤ cm) (h3 : ik.C w Al l.length l) (h4 : l.length ≤ cl) (h5 : uk.C w Am' m'.length m') (h6 : m'.length ≤ cm') (h7 : ik.C w Al' l'.length l') (h8 : l'.length ≤ cl') (hm : m.length ≤ 1000) (hl : l.length ≤ 1000) :
    Calls Try.prog 28 #[.agg #[.int .i64 n, .slice Am m.length cm, .bool sh, .slice Al l.length cl], .agg #[.int .i64 n', .slice Am' m'.length cm', .bool sh', .slice Al' l'.length cl']] w fun e w' => e = .returned (.bool (sameB n n' sh sh' m m' l l')) ∧ Below w.heap.size w w' :=
  monocoqueref25_Same.calls 2000 n Am cm m sh Al cl l n' Am' cm' m' sh' Al' cl' l' _ w h1 h2 h3 h4 h5 h6 h7 h8 (same_f n m sh l n' m' sh' l' hm hl)
theorem sameB_symm (n n' : Nat) (sh sh' : Bool) (m m' l l' : List Int) : sameB n n' sh sh' m m' l l' = sameB n' n sh' sh m' m l' l := by
  unfold sameB eqB
  congr 1
  · congr 1
    · congr 1
      · exact decide_eq_decide.2 ⟨Eq.symm, Eq.symm⟩
      · exact Bool.beq_comm
    · exact decide_eq_decide.2 ⟨Eq.symm, Eq.symm⟩
  · exact decide_eq_decide.2 ⟨Eq.symm, Eq.symm⟩
theorem sameB_self (n : Nat) (sh : Bool) (m l : List Int) : sameB n n sh sh m m l l = true := by simp [sameB, eqB]
end Go.Proofs.Ytdmhlfjocajinaa.BdRSame
