import Derived.Test.YtdmhlfjocajinaaOwn2
set_option linter.unusedVariables false
set_option linter.unusedSimpArgs false
namespace Go.Proofs.Ytdmhlfjocajinaa.Own3
open Go.RowKit Go.Proofs.YtdmhlfjocajinaaW.PrintWords Go.Proofs.Ytdmhlfjocajinaa.Own Go.Proofs.Ytdmhlfjocajinaa.Own2

/-- An element of a list of rows of numbers. -/
theorem rows_at {k : IntKind} {e : Nat} {w : World} {A : Option Addr} {n : Nat} {l : List (List Int)} (h : (Kd.slice e (Kd.int k)).C w A n l) (j : Nat) (hj : j < n) :
    ∃ ad A' c, A = some ad ∧ w.cell? (ad.add j) = some (.slice A' (l.getD j []).length c) ∧ (l.getD j []).length ≤ c ∧ (Kd.int k).C w A' (l.getD j []).length (l.getD j []) := by
  obtain ⟨ad, cs, he, hcl, hK, hcc⟩ := Kd.C_get h [] (j : Int) (by omega) (by omega)
  rw [Int.toNat_natCast] at hK hcc
  obtain ⟨A', c, rfl, hle, hC⟩ := hK
  have h1 := hcc 0 _ rfl
  have e1 : (Kd.slice e (Kd.int k)).sz = 1 := rfl
  rw [e1, show j * 1 + 0 = j by omega] at h1
  exact ⟨ad, A', c, he, h1, hle, hC⟩
/-- An element of a row of numbers. -/
theorem nums_at {k : IntKind} {w : World} {A : Option Addr} {n : Nat} {l : List Int} (h : (Kd.int k).C w A n l) (j : Nat) (hj : j < n) : ∃ ad, A = some ad ∧ w.cell? (ad.add j) = some (.int k (rd l j)) := by
  obtain ⟨ad, he, hc⟩ := Kd.at_int h (j : Int) (by omega) (by omega)
  rw [Int.toNat_natCast] at hc
  exact ⟨ad, he, hc⟩
/-- What came in, in a later world: only blocks from B on have turned. -/
theorem C_came {k : IntKind} {w wr : World} {A : Option Addr} {n : Nat} {xs : List Int} (h : (Kd.int k).C w A n xs) (hb : Below w.heap.size w wr) (b : Nat) (hbw : w.heap.size ≤ b) : Kd.F (Kd.int k) wr (fun k => k ≠ b) A n xs :=
  Kd.F_mono (Kd.F_below (Kd.C_F (Kd.heap_int _) h) hb) (fun k hk => by omega)
end Go.Proofs.Ytdmhlfjocajinaa.Own3
