import Derived.Test.YtnnoeomjamlhbaaRingDo
set_option linter.unusedVariables false
set_option linter.unusedSimpArgs false
namespace Go.Proofs.Ytnnoeomjamlhbaa.RingLs
attribute [local go_sem ↓] Go.wp_at_zero Go.wp_at_succ
open Go.RowKit Go.Proofs.YtnnoeomjamlhbaaW.PrintWords Go.Proofs.Ytnnoeomjamlhbaa.Own Go.Proofs.Ytnnoeomjamlhbaa.SlU Go.Proofs.Ytnnoeomjamlhbaa.Ring Go.Proofs.Ytnnoeomjamlhbaa.RingQ Go.Proofs.Ytnnoeomjamlhbaa.RingTold Go.Proofs.Ytnnoeomjamlhbaa.RingAll Go.Proofs.Ytnnoeomjamlhbaa.RingClr Go.Proofs.Ytnnoeomjamlhbaa.RingSt Go.Proofs.Ytnnoeomjamlhbaa.RingDo

abbrev opk : Kd (Int × List Int) := Kd.pair (Kd.int .i64) mk
/-- An act, as it lies in a slice that came in. -/
theorem op_at {w : World} {A : Option Addr} {n : Nat} {xs : List (Int × List Int)} (h : opk.C w A n xs) (j : Nat) (hj : j < xs.length) :
    ∃ ad A' c', A = some ad ∧ w.cell? (ad.add (j * 2)) = some (.int .i64 xs[j].1) ∧ w.cell? ⟨(ad.add (j * 2)).block, (ad.add (j * 2)).off + 1, none⟩ = some (.slice A' xs[j].2.length c') ∧ xs[j].2.length ≤ c' ∧ nk.C w A' xs[j].2.length xs[j].2 := by
  obtain ⟨h1, h2, h3⟩ := h
  obtain ⟨ad, he, hc⟩ := h3 (by omega)
  obtain ⟨c, hl, ⟨c0, c1, hcc, h0, h1'⟩, hcell⟩ := hc j _ (List.getElem?_eq_getElem hj)
  have e0 : c0 = [.int .i64 xs[j].1] := h0
  obtain ⟨A', c', e1, hle, hC⟩ := h1'
  subst e0 e1 hcc
  have a0 := hcell 0 _ rfl
  have a1 := hcell 1 _ rfl
  refine ⟨ad, A', c', he, a0, ?_, hle, hC⟩
  have e2 : opk.sz = 2 := rfl
  rw [e2, add_field ad (j * 2) 1 (by omega)] at a1
  exact a1

def eqLB (a b : List (List Int)) : Bool := decide (a = b)

theorem wrap_succ (i n : Nat) (h : i < n) (hn : n ≤ 9223372036854775807) : wrap64 ((i : Int) + 1) = ((i + 1 : Nat) : Int) := by
  unfold wrap64
  omega
theorem same_l0 (a b : List Int) (hl : a.length = b.length) (hm : a.length ≤ 9223372036854775807) : ∀ d i, a.length - i = d → i ≤ a.length → (∀ j : Nat, j < i → rd a j = rd b j) → PRingActs.monocoqueref03_Same.l0 (d + 1) a b i = some (decide (a = b))
  | 0, i, hd, hi, he => by
    rw [PRingActs.monocoqueref03_Same.l0, if_neg (by omega)]
    congr 1
    symm
    have := SameR.same_of hl (fun j hj => he j (by omega))
    unfold eqB at this
    exact this
  | d + 1, i, hd, hi, he => by
    rw [PRingActs.monocoqueref03_Same.l0, if_pos (by omega), if_pos (by omega), if_pos (by omega)]
    by_cases h : rd a i = rd b i
    · rw [if_pos h, wrap_succ i a.length (by omega) hm]
      refine same_l0 a b hl hm d (i + 1) (by omega) (by omega) (fun j hj => ?_)
      by_cases e : j = i
      · rw [e]; exact h
      · exact he j (by omega)
    · rw [if_neg h]
      have := SameR.same_not h
      unfold eqB at this
      rw [this]
theorem same_f (a b : List Int) (hm : a.length ≤ 9223372036854775807) (k : Nat) (hk : a.length < k) : PRingActs.monocoqueref03_Same.f k a b = some (decide (a = b)) := by
  have h1 : PRingActs.monocoqueref03_Same.f (a.length + 1) a b = some (decide (a = b)) := by
    unfold PRingActs.monocoqueref03_Same.f
    by_cases hl : a.length = b.length
    · rw [if_pos (by omega)]
      exact same_l0 a b hl hm a.length 0 (by omega) (by omega) (fun j hj => by omega)
    · rw [if_neg (by omega)]
      congr 1
      symm
      rw [decide_eq_false_iff_not]
      rintro rfl
      exact hl rfl
  exact at_rounds (g := fun k => PRingActs.monocoqueref03_Same.f k a b) (fun k => PRingActs.monocoqueref03_Same.mono _ _ k) (by omega) h1
theorem list_ext_getD {a b : List (List Int)} (hl : a.length = b.length) (h : ∀ j : Nat, j < a.length → PRingActs.rd_L1 a j = PRingActs.rd_L1 b j) : a = b := by
  apply List.ext_getElem hl
  intro i h1 h2
  have := h i h1
  simpa [PRingActs.rd_L1, List.getD, h1, h2] using this
theorem sameall_l0 (a b : List (List Int)) (M : Nat) (hl : a.length = b.length) (hm : a.length ≤ 9223372036854775807) (hM : ∀ m ∈ a, m.length ≤ M) (hM2 : M ≤ 9223372036854775807) : ∀ d i, a.length - i = d → i ≤ a.length → (∀ j : Nat, j < i → PRingActs.rd_L1 a j = PRingActs.rd_L1 b j) → PRingActs.monocoqueref03_SameAll.l0 (M + 1 + d + 1) a b i = some (eqLB a b)
  | 0, i, hd, hi, he => by
    rw [PRingActs.monocoqueref03_SameAll.l0, if_neg (by omega)]
    congr 1
    symm
    unfold eqLB
    rw [decide_eq_true_eq]
    exact list_ext_getD hl (fun j hj => he j (by omega))
  | d + 1, i, hd, hi, he => by
    rw [PRingActs.monocoqueref03_SameAll.l0, if_pos (by omega), if_pos (by omega), if_pos (by omega)]
    have hmi : (PRingActs.rd_L1 a i).length ≤ M := by
      apply hM
      have hlt : i < a.length := by omega
      simp [PRingActs.rd_L1, List.getD, hlt]
    rw [same_f _ _ (by omega) _ (by omega)]
    simp only [Option.bind_some]
    by_cases h : PRingActs.rd_L1 a i = PRingActs.rd_L1 b i
    · rw [if_pos (by simpa using h), wrap_succ i a.length (by omega) hm]
      refine sameall_l0 a b M hl hm hM hM2 d (i + 1) (by omega) (by omega) (fun j hj => ?_)
      by_cases e : j = i
      · rw [e]; exact h
      · exact he j (by omega)
    · rw [if_neg (by simpa using h)]
      congr 1
      symm
      unfold eqLB
      rw [decide_eq_false_iff_not]
      rintro rfl
      exact h rfl
theorem sameall_calls (A : Option Addr) (c : Nat) (a : List (List Int)) (B : Option Addr) (d : Nat) (b : List (List Int)) (w : World) (ha : mk.C w A a.length a) (hc : a.length ≤ c) (hb : mk.C w B b.length b) (hd : b.length ≤ d) :
    Calls Try.prog 19 #[.slice A a.length c, .slice B b.length d] w fun e w' => e = .returned (.bool (eqLB a b)) ∧ Upd w w' (fun _ => False) := by
  have hma := Kd.C_max ha
  obtain ⟨k, hk⟩ : ∃ k, PRingActs.monocoqueref03_SameAll.f k a b = some (eqLB a b) := by
    by_cases hl : a.length = b.length
    · obtain ⟨M, hM, hM2⟩ : ∃ M, (∀ m ∈ a, m.length ≤ M) ∧ M ≤ 9223372036854775807 := by
        refine ⟨9223372036854775807, fun m hm => ?_, Nat.le_refl _⟩
        obtain ⟨j, hj, rfl⟩ := List.getElem_of_mem hm
        obtain ⟨ad, cs, he, hcl, hK, hcc⟩ := Kd.C_get ha [] (j : Int) (by omega) (by omega)
        obtain ⟨A', c', rfl, hle, hC⟩ := hK
        have := Kd.C_max hC
        simpa [List.getD, hj] using this
      refine ⟨M + 1 + a.length + 1, ?_⟩
      unfold PRingActs.monocoqueref03_SameAll.f
      rw [if_pos (by omega)]
      exact sameall_l0 a b M hl hma hM hM2 a.length 0 (by omega) (by omega) (fun j hj => by omega)
    · refine ⟨0, ?_⟩
      unfold PRingActs.monocoqueref03_SameAll.f
      rw [if_neg (by omega)]
      congr 1
      symm
      unfold eqLB
      rw [decide_eq_false_iff_not]
      rintro rfl
      exact hl rfl
  refine (PRingActs.monocoqueref03_SameAll.calls k A c a B d b _ w ha hc hb hd hk).mono ?_
  rintro e w' ⟨rfl, hq⟩
  exact ⟨rfl, Upd.of_q hq.out⟩

/-- The Ring at b, the document's beside it in the variable at block p. -/
def LS (w wr : World) (b p room words : Nat) (q : List (List Int)) : Prop :=
  ∃ A c F G, Two wr F G b room words (.slice A q.length c) q ∧ wr.heap[p]? = some (.cells #[.int .i64 room, .int .i64 words, .slice A q.length c] 43 (0, 0)) ∧ ¬ F p ∧ ¬ G p ∧ (∀ k, F k → w.heap.size ≤ k) ∧ w.heap.size ≤ p ∧ Below w.heap.size w wr
theorem Two.upd0 {w w1 : World} {F G : Nat → Prop} {b room words : Nat} {v : Value} {q : List (List Int)} (h : Two w F G b room words v q) (hu : Upd w w1 (fun _ => False)) : Two w1 F G b room words v q := ⟨h.1.upd0 hu, Kd.V_kept h.2.1 hu.kept (fun _ _ h => h), h.2.2⟩
theorem Two.bound {w : World} {F G : Nat → Prop} {b room words : Nat} {v : Value} {q : List (List Int)} (h : Two w F G b room words v q) : Two w (fun k => F k ∧ k < w.heap.size) (fun k => G k ∧ k < w.heap.size) b room words v q :=
  ⟨h.1.bound, Kd.V_bound h.2.1, fun k hk hg => h.2.2 k hk.1 hg.1⟩
theorem LS.upd {w wr w1 : World} {b p room words : Nat} {q : List (List Int)} (h : LS w wr b p room words q) (hu : Upd wr w1 (fun _ => False)) : LS w w1 b p room words q := by
  obtain ⟨A, c, F, G, h2, hp, hpF, hpG, hF, hwp, hbw⟩ := h
  exact ⟨A, c, F, G, Two.upd0 h2 hu, (hu.block (blk_lt hp) (fun h => h)).trans hp, hpF, hpG, hF, hwp, hbw.upd hbw.size hu (fun _ h => h.elim)⟩
/-- Behind an act: the new one beside the old variable; no block from lo to hi is theirs. -/
def AS (w wr : World) (b p room words : Nat) (q q2 : List (List Int)) (v2 : Value) (lo hi : Nat) : Prop :=
  ∃ A c F G, Two wr F G b room words v2 q2 ∧ wr.heap[p]? = some (.cells #[.int .i64 room, .int .i64 words, .slice A q.length c] 43 (0, 0)) ∧ ¬ F p ∧ ¬ G p ∧ (∀ k, F k → w.heap.size ≤ k) ∧ w.heap.size ≤ p ∧ Below w.heap.size w wr ∧ ∀ k, lo ≤ k → k < hi → ¬ F k ∧ ¬ G k
/-- An act, whatever stands beside. -/
theorem LS.do {w wr : World} {b p room words : Nat} {q : List (List Int)} {A : Option Addr} {c : Nat} {F G : Nat → Prop} (kind : Int) (m : List Int) : ∃ q2, q2.length ≤ q.length + 1 ∧ ∀ (h2 : Two wr F G b room words (.slice A q.length c) q) (hp : wr.heap[p]? = some (.cells #[.int .i64 room, .int .i64 words, .slice A q.length c] 43 (0, 0))) (hpF : ¬ F p) (hpG : ¬ G p) (hF : ∀ k, F k → w.heap.size ≤ k) (hwp : w.heap.size ≤ p) (hbw : Below w.heap.size w wr) (A' : Option Addr) (c' : Nat) (hm : nk.C w A' m.length m) (hc : m.length ≤ c') (X : World) (hX : Upd wr X (fun _ => False)),
    Calls Try.prog 18 #[.pointer (some ⟨b, 0, none⟩), .agg #[.int .i64 room, .int .i64 words, .slice A q.length c], .agg #[.int .i64 kind, .slice A' m.length c']] X fun e w4 => ∃ A2 c2, e = .returned (.tuple #[.agg #[.int .i64 room, .int .i64 words, .slice A2 q2.length c2], .bool true]) ∧ AS w w4 b p room words q q2 (.slice A2 q2.length c2) wr.heap.size X.heap.size ∧ Upd X w4 (fun k => F k ∧ k < wr.heap.size) := by
  obtain ⟨k, hk, hd⟩ := do_calls kind
  refine ⟨stepQ k (m.take 40) words room q, ?_, ?_⟩
  · unfold stepQ putS
    split
    · split
      · simp
      · split <;> simp
    · split
      · cases q <;> simp [takeS]; omega
      · split <;> simp
  · intro h2 hp hpF hpG hF hwp hbw A' c' hm hc X hX
    have hz := hbw.size
    have hzX := hX.size
    have hbX := hbw.upd hz hX (fun _ h => h.elim)
    refine (hd X _ _ b room words _ q A' c' m (Two.upd0 (Two.bound h2) hX) (Kd.C_below hm hbX) hc).mono ?_
    rintro e w4 ⟨v4, F4, G4, rfl, h4, hF4, hG4, hu4⟩
    obtain ⟨A2, c2, rfl⟩ := Kd.V_slice h4.2.1
    have hpl := blk_lt hp
    refine ⟨A2, c2, rfl, ⟨A, c, F4, G4, h4, (hu4.block (by omega) (fun h => hpF h.1)).trans ((hX.block hpl (fun h => h)).trans hp), fun h => ?_, fun h => ?_, fun k hk => ?_, hwp, hbX.upd (by omega) hu4 (fun k hk => hF k hk.1), fun k h1 h2 => ⟨fun h => ?_, fun h => ?_⟩⟩, hu4⟩
    · exact (hF4 p h).elim (fun h => hpF h.1) (fun h => by omega)
    · exact (hG4 p h).elim (fun h => hpG h.1) (fun h => by omega)
    · exact (hF4 k hk).elim (fun h => hF k h.1) (fun h => by omega)
    · exact (hF4 k h).elim (fun h => by omega) (fun h => by omega)
    · exact (hG4 k h).elim (fun h => by omega) (fun h => by omega)
/-- The variable written anew. -/
theorem AS.store {w wr : World} {b p room words : Nat} {q q2 : List (List Int)} {A2 : Option Addr} {c2 : Nat} {lo hi : Nat} (h : AS w wr b p room words q q2 (.slice A2 q2.length c2) lo hi) :
    LS w (((wr.setCell ⟨p, 0, none⟩ (.int .i64 room)).setCell ⟨p, 1, none⟩ (.int .i64 words)).setCell ⟨p, 2, none⟩ (.slice A2 q2.length c2)) b p room words q2 := by
  obtain ⟨A, c, F, G, h2, hp, hpF, hpG, hF, hwp, hbw, _⟩ := h
  have hX := (((Upd.refl wr (fun k => k = p)).setCell (p := ⟨p, 0, none⟩) (.inl rfl) (.int .i64 room)).setCell (p := ⟨p, 1, none⟩) (.inl rfl) (.int .i64 words)).setCell (p := ⟨p, 2, none⟩) (.inl rfl) (.slice A2 q2.length c2)
  refine ⟨A2, c2, F, G, ⟨h2.1.upd' hX (fun k hk _ h => hpF (h ▸ hk)), Kd.V_kept h2.2.1 hX.kept (fun k hk h => hpG (h ▸ hk)), h2.2.2⟩, blk_set (blk_set (blk_set hp 0 _) 1 _) 2 _, hpF, hpG, hF, hwp, hbw.upd hbw.size hX (fun k hk => by rw [hk]; exact hwp)⟩
theorem AS.updp {w wr W : World} {b p room words lo hi r : Nat} {q q2 : List (List Int)} {v2 : Value} (h : AS w wr b p room words q q2 v2 lo hi) (hu : Upd wr W (fun k => k = r)) (hr : w.heap.size ≤ r) (hrp : ¬ p = r) (h1 : lo ≤ r) (h2 : r < hi) : AS w W b p room words q q2 v2 lo hi := by
  obtain ⟨A, c, F, G, ht, hp, hpF, hpG, hF, hwp, hbw, hl⟩ := h
  obtain ⟨hrF, hrG⟩ := hl r h1 h2
  exact ⟨A, c, F, G, ⟨ht.1.upd' hu (fun k hk _ h => hrF (h ▸ hk)), Kd.V_kept ht.2.1 hu.kept (fun k hk h => hrG (h ▸ hk)), ht.2.2⟩, (hu.block (blk_lt hp) hrp).trans hp, hpF, hpG, hF, hwp, hbw.upd hbw.size hu (fun k hk => by rw [hk]; exact hr), hl⟩
theorem AS.upd0 {w wr W : World} {b p room words lo hi : Nat} {q q2 : List (List Int)} {v2 : Value} (h : AS w wr b p room words q q2 v2 lo hi) (hu : Upd wr W (fun _ => False)) : AS w W b p room words q q2 v2 lo hi := by
  obtain ⟨A, c, F, G, ht, hp, hpF, hpG, hF, hwp, hbw, hl⟩ := h
  exact ⟨A, c, F, G, Two.upd0 ht hu, (hu.block (blk_lt hp) (fun h => h)).trans hp, hpF, hpG, hF, hwp, hbw.upd hbw.size hu (fun k hk => hk.elim), hl⟩
theorem AS.blk {w wr : World} {b p room words lo hi : Nat} {q q2 : List (List Int)} {v2 : Value} (h : AS w wr b p room words q q2 v2 lo hi) : ∃ A c, wr.heap[p]? = some (.cells #[.int .i64 room, .int .i64 words, .slice A q.length c] 43 (0, 0)) := by
  obtain ⟨A, c, _, _, _, hp, _⟩ := h
  exact ⟨A, c, hp⟩
end Go.Proofs.Ytnnoeomjamlhbaa.RingLs
