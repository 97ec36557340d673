import Derived.Test.YtdmhlfjocajinaaBdSp
import Derived.Test.YtdmhlfjocajinaaBdRef
import Derived.Test.YtdmhlfjocajinaaOwn3
set_option linter.unusedVariables false
set_option linter.unusedSimpArgs false
namespace Go.Proofs.Ytdmhlfjocajinaa.BdOp
attribute [local go_sem ↓] Go.wp_at_zero Go.wp_at_succ
open Go.RowKit Go.Proofs.YtdmhlfjocajinaaW.PrintWords Go.Proofs.Ytdmhlfjocajinaa.Own Go.Proofs.Ytdmhlfjocajinaa.Own2 Go.Proofs.Ytdmhlfjocajinaa.Own3 Go.Proofs.Ytdmhlfjocajinaa.Board Go.Proofs.Ytdmhlfjocajinaa.BdSp Go.Proofs.Ytdmhlfjocajinaa.BdRef

/-- What may be done with a Board. -/
inductive Op
  | show (x : List Int)
  | clear
  | drop (id : Int)
  | read (id : Int)
/-- What becomes of it. -/
def opS (n : Nat) : Op → Bool → List Int → List Int → Bool × List Int × List Int
  | .show x, sh, m, q => if x.length ≤ n then (true, x, []) else (sh, m, q)
  | .clear, _, _, q => (false, [], q)
  | .drop id, sh, m, q => (sh, m, dropL q id)
  | .read id, sh, m, q => (sh, m, waitL sh q id)
theorem dropL_len (q : List Int) (id : Int) : (dropL q id).length ≤ q.length := by
  cases hin : hasB q id with
  | true =>
    obtain ⟨k, hk, _, e⟩ := has_idx hin
    rw [e, List.length_eraseIdx]
    split <;> omega
  | false => rw [(has_not hin).2]; exact Nat.le_refl _
theorem waitL_len (sh : Bool) (q : List Int) (id : Int) : (waitL sh q id).length ≤ q.length + 1 := by
  unfold waitL
  repeat' split
  all_goals simp
theorem opS_small {n : Nat} {o : Op} {sh sh' : Bool} {m m' q q' : List Int} (hs : (sh', m', q') = opS n o sh m q) (hm : m.length ≤ 32) (hn : n ≤ 32) : m'.length ≤ 32 ∧ q'.length ≤ q.length + 1 := by
  cases o with
  | «show» x =>
    replace hs : (sh', m', q') = if x.length ≤ n then (true, x, []) else (sh, m, q) := hs
    by_cases hl : x.length ≤ n
    · rw [if_pos hl] at hs
      injection hs with e1 e2; injection e2 with e2 e3; subst e2 e3; simp; omega
    · rw [if_neg hl] at hs
      injection hs with e1 e2; injection e2 with e2 e3; subst e2 e3; omega
  | clear => injection hs with e1 e2; injection e2 with e2 e3; subst e2 e3; simp
  | drop id => injection hs with e1 e2; injection e2 with e2 e3; subst e2 e3; have := dropL_len q id; exact ⟨hm, by omega⟩
  | read id => injection hs with e1 e2; injection e2 with e2 e3; subst e2 e3; exact ⟨hm, waitL_len _ _ _⟩

theorem code_show (w : World) (G : Nat → Prop) (b n : Nat) (sh sh' : Bool) (m m' q q' : List Int) (A : Option Addr) (c : Nat) (x : List Int) (h : At w G b n sh m q) (hx : Kd.F uk w (fun k => k ≠ b) A x.length x) (hn : n ≤ 32) (hs : (sh', m', q') = opS n (.show x) sh m q) :
    Calls Try.prog 12 #[.pointer (some ⟨b, 0, none⟩), .slice A x.length c] w fun e w' => ∃ v, e = .returned v ∧ At w' (fun k => G k ∨ w.heap.size ≤ k) b n sh' m' q' ∧ Upd w w' G := by
  replace hs : (sh', m', q') = if x.length ≤ n then (true, x, []) else (sh, m, q) := hs
  by_cases hl : x.length ≤ n
  · rw [if_pos hl] at hs
    injection hs with e1 e2
    injection e2 with e2 e3
    subst e1 e2 e3
    refine (show_calls w G b n sh m q A c _ h hx hl (by omega)).mono ?_
    rintro e w' ⟨v, rfl, _, ha, hu⟩
    exact ⟨_, rfl, ha.mono (fun k hk => hk.elim (fun e => .inl (e ▸ h.1)) .inr), hu.mono (fun k hk => hk ▸ h.1)⟩
  · rw [if_neg hl] at hs
    injection hs with e1 e2
    injection e2 with e2 e3
    subst e1 e2 e3
    refine (show_long w G b n _ _ _ A x.length c h (by omega)).mono ?_
    rintro e w' ⟨rfl, rfl⟩
    exact ⟨_, rfl, h.mono (fun k hk => .inl hk), Upd.refl _ _⟩
theorem code_clear (w : World) (G : Nat → Prop) (b n : Nat) (sh sh' : Bool) (m m' q q' : List Int) (h : At w G b n sh m q) (hs : (sh', m', q') = opS n .clear sh m q) :
    Calls Try.prog 16 #[.pointer (some ⟨b, 0, none⟩)] w fun e w' => ∃ v, e = .returned v ∧ At w' (fun k => G k ∨ w.heap.size ≤ k) b n sh' m' q' ∧ Upd w w' G := by
  injection hs with e1 e2
  injection e2 with e2 e3
  subst e1 e2 e3
  refine (clear_calls w G b n sh m _ h).mono ?_
  rintro e w' ⟨rfl, ha, hu⟩
  exact ⟨_, rfl, ha.mono (fun k hk => .inl hk), hu.mono (fun k hk => hk ▸ h.1)⟩
theorem code_drop (w : World) (G : Nat → Prop) (b n : Nat) (sh sh' : Bool) (m m' q q' : List Int) (id : Int) (h : At w G b n sh m q) (hq : q.length ≤ 1000000) (hs : (sh', m', q') = opS n (.drop id) sh m q) :
    Calls Try.prog 20 #[.pointer (some ⟨b, 0, none⟩), .int .i64 id] w fun e w' => ∃ v, e = .returned v ∧ At w' (fun k => G k ∨ w.heap.size ≤ k) b n sh' m' q' ∧ Upd w w' G := by
  injection hs with e1 e2
  injection e2 with e2 e3
  subst e1 e2 e3
  cases hin : hasB q id with
  | true =>
    refine (drop_yes w G b n _ _ q id h hq hin).mono ?_
    rintro e w' ⟨rfl, ha, hu⟩
    exact ⟨_, rfl, ha.mono (fun k hk => .inl hk), hu⟩
  | false =>
    refine (drop_no w G b n _ _ q id h hq hin).mono ?_
    rintro e w' ⟨rfl, hu⟩
    rw [(has_not hin).2]
    exact ⟨_, rfl, (h.upd0 hu).mono (fun k hk => .inl hk), hu.mono (fun k hk => hk.elim)⟩
theorem code_read (w : World) (G : Nat → Prop) (b n : Nat) (sh sh' : Bool) (m m' q q' : List Int) (id : Int) (h : At w G b n sh m q) (hm : m.length ≤ 100000) (hq : q.length ≤ 1000000) (hs : (sh', m', q') = opS n (.read id) sh m q) :
    Calls Try.prog 14 #[.pointer (some ⟨b, 0, none⟩), .int .i64 id] w fun e w' => ∃ v, e = .returned v ∧ At w' (fun k => G k ∨ w.heap.size ≤ k) b n sh' m' q' ∧ Upd w w' G := by
  injection hs with e1 e2
  injection e2 with e2 e3
  subst e1 e2 e3
  cases sh' with
  | true =>
    refine (read_yes w G b n _ q id h hm).mono ?_
    rintro e w' ⟨v, rfl, _, hu⟩
    exact ⟨_, rfl, (h.upd0 hu).mono (fun k hk => .inl hk), hu.mono (fun k hk => hk.elim)⟩
  | false =>
    refine (read_no w G b n _ q id h hq).mono ?_
    rintro e w' ⟨rfl, ha, hu⟩
    exact ⟨_, rfl, ha, hu⟩

/-- What the document's Board holds. -/
def Doc (w : World) (P GL : Nat → Prop) (n : Nat) (sh : Bool) (m q : List Int) (v : Value) : Prop :=
  ∃ Am cm Al cl, v = .agg #[.int .i64 n, .slice Am m.length cm, .bool sh, .slice Al q.length cl] ∧ Kd.F uk w P Am m.length m ∧ m.length ≤ cm ∧ ik.R 3 w 0 GL (.slice Al q.length cl) q
theorem doc_show (w : World) (P GL : Nat → Prop) (n : Nat) (Am : Option Addr) (cm : Nat) (Al : Option Addr) (cl : Nat) (sh sh' : Bool) (m m' q q' : List Int) (A : Option Addr) (c : Nat) (x : List Int) (hm : Kd.F uk w P Am m.length m) (hmc : m.length ≤ cm) (hq : ik.R 3 w 0 GL (.slice Al q.length cl) q) (hx : Kd.F uk w P A x.length x) (hxc : x.length ≤ c) (hs : (sh', m', q') = opS n (.show x) sh m q) :
    Calls Try.prog 23 #[.agg #[.int .i64 n, .slice Am m.length cm, .bool sh, .slice Al q.length cl], .slice A x.length c] w fun e w' => ∃ v u1 u2, e = .returned (.tuple #[v, u1, u2]) ∧ Doc w' P (fun k => GL k ∨ w.heap.size ≤ k) n sh' m' q' v ∧ Upd w w' (fun _ => False) := by
  replace hs : (sh', m', q') = if x.length ≤ n then (true, x, []) else (sh, m, q) := hs
  by_cases hl : x.length ≤ n
  · rw [if_pos hl] at hs
    injection hs with e1 e2
    injection e2 with e2 e3
    subst e1 e2 e3
    refine (rshow_ok w n Am m.length cm sh Al q.length cl A _ c hl).mono ?_
    rintro e w' ⟨rfl, hu⟩
    exact ⟨_, _, _, rfl, ⟨_, _, none, 0, rfl, Kd.F_kept hx hu.kept (fun _ _ h => h), hxc, Kd.R_nil _ _ _ _ _⟩, hu⟩
  · rw [if_neg hl] at hs
    injection hs with e1 e2
    injection e2 with e2 e3
    subst e1 e2 e3
    refine (rshow_long w n Am _ cm _ Al _ cl A _ c (by omega)).mono ?_
    rintro e w' ⟨rfl, hu⟩
    exact ⟨_, _, _, rfl, ⟨_, _, _, _, rfl, Kd.F_kept hm hu.kept (fun _ _ h => h), hmc, Kd.R_mono (R_upd0 hq hu) (fun k hk => .inl hk)⟩, hu⟩
theorem doc_clear (w : World) (P GL : Nat → Prop) (n : Nat) (Am : Option Addr) (cm : Nat) (Al : Option Addr) (cl : Nat) (sh sh' : Bool) (m m' q q' : List Int) (hq : ik.R 3 w 0 GL (.slice Al q.length cl) q) (hs : (sh', m', q') = opS n .clear sh m q) :
    Calls Try.prog 24 #[.agg #[.int .i64 n, .slice Am m.length cm, .bool sh, .slice Al q.length cl]] w fun e w' => ∃ v, e = .returned v ∧ Doc w' P (fun k => GL k ∨ w.heap.size ≤ k) n sh' m' q' v ∧ Upd w w' (fun _ => False) := by
  injection hs with e1 e2
  injection e2 with e2 e3
  subst e1 e2 e3
  refine (rclear_calls w n Am m.length cm sh Al _ cl).mono ?_
  rintro e w' ⟨rfl, hu⟩
  exact ⟨_, rfl, ⟨none, 0, _, _, rfl, Kd.F_nil _ _ _, Nat.le_refl _, Kd.R_mono (R_upd0 hq hu) (fun k hk => .inl hk)⟩, hu⟩
theorem doc_drop (w : World) (P GL : Nat → Prop) (n : Nat) (Am : Option Addr) (cm : Nat) (Al : Option Addr) (cl : Nat) (sh sh' : Bool) (m m' q q' : List Int) (id : Int) (hm : Kd.F uk w P Am m.length m) (hmc : m.length ≤ cm) (hq : ik.R 3 w 0 GL (.slice Al q.length cl) q) (hql : q.length ≤ 1000000) (hs : (sh', m', q') = opS n (.drop id) sh m q) :
    Calls Try.prog 25 #[.agg #[.int .i64 n, .slice Am m.length cm, .bool sh, .slice Al q.length cl], .int .i64 id] w fun e w' => ∃ v u1, e = .returned (.tuple #[v, u1]) ∧ Doc w' P (fun k => GL k ∨ w.heap.size ≤ k) n sh' m' q' v ∧ Upd w w' (fun _ => False) := by
  injection hs with e1 e2
  injection e2 with e2 e3
  subst e1 e2 e3
  have hC := (Kd.R_reads' hq)
  cases hin : hasB q id with
  | true =>
    refine (rdrop_yes w n Am _ cm _ Al q cl id hC.2.2 hC.2.1 hql hin).mono ?_
    rintro e w' ⟨v, rfl, hr, hu⟩
    obtain ⟨A2, c2, rfl⟩ := Kd.R_slice hr
    exact ⟨_, _, rfl, ⟨_, _, _, _, rfl, Kd.F_kept hm hu.kept (fun _ _ h => h), hmc, Kd.R_mono hr (fun k hk => .inr hk)⟩, hu⟩
  | false =>
    refine (rdrop_no w n Am _ cm _ Al q cl id hC.2.2 hin).mono ?_
    rintro e w' ⟨rfl, hu⟩
    rw [(has_not hin).2]
    exact ⟨_, _, rfl, ⟨_, _, _, _, rfl, Kd.F_kept hm hu.kept (fun _ _ h => h), hmc, Kd.R_mono (R_upd0 hq hu) (fun k hk => .inl hk)⟩, hu⟩
theorem doc_read (w : World) (P GL : Nat → Prop) (n : Nat) (Am : Option Addr) (cm : Nat) (Al : Option Addr) (cl : Nat) (sh sh' : Bool) (m m' q q' : List Int) (id : Int) (hm : Kd.F uk w P Am m.length m) (hmc : m.length ≤ cm) (hq : ik.R 3 w 0 GL (.slice Al q.length cl) q) (hql : q.length ≤ 1000000) (hs : (sh', m', q') = opS n (.read id) sh m q) :
    Calls Try.prog 26 #[.agg #[.int .i64 n, .slice Am m.length cm, .bool sh, .slice Al q.length cl], .int .i64 id] w fun e w' => ∃ v u1 u2, e = .returned (.tuple #[v, u1, u2]) ∧ Doc w' P (fun k => GL k ∨ w.heap.size ≤ k) n sh' m' q' v ∧ Upd w w' (fun _ => False) := by
  injection hs with e1 e2
  injection e2 with e2 e3
  subst e1 e2 e3
  have hC := (Kd.R_reads' hq)
  cases sh' with
  | true =>
    refine (rread_yes w n Am _ cm Al _ cl id).mono ?_
    rintro e w' ⟨rfl, hu⟩
    exact ⟨_, _, _, rfl, ⟨_, _, _, _, rfl, Kd.F_kept hm hu.kept (fun _ _ h => h), hmc, Kd.R_mono (R_upd0 hq hu) (fun k hk => .inl hk)⟩, hu⟩
  | false =>
    cases hin : hasB q id with
    | true =>
      refine (rread_has w n Am _ cm Al q cl id hC.2.2 hC.2.1 hin).mono ?_
      rintro e w' ⟨rfl, hu⟩
      rw [show waitL false q id = q by simp [waitL, hin]]
      exact ⟨_, _, _, rfl, ⟨_, _, _, _, rfl, Kd.F_kept hm hu.kept (fun _ _ h => h), hmc, Kd.R_mono (R_upd0 hq hu) (fun k hk => .inl hk)⟩, hu⟩
    | false =>
      refine (rread_new w n Am _ cm Al q cl id hC.2.2 hql hin).mono ?_
      rintro e w' ⟨v, rfl, hr, hu⟩
      rw [show waitL false q id = q ++ [id] by simp [waitL, hin]]
      obtain ⟨A2, c2, rfl⟩ := Kd.R_slice hr
      exact ⟨_, _, _, rfl, ⟨_, _, _, _, rfl, Kd.F_kept hm hu.kept (fun _ _ h => h), hmc, Kd.R_mono hr (fun k hk => .inr hk)⟩, hu⟩

/-- The document's Board in its box d, beside the code's at b: w0 is the world in which both began. -/
def Two (PB : Nat) (w0 wr : World) (b d n : Nat) (sh : Bool) (m l : List Int) : Prop :=
  ∃ (G GL : Nat → Prop) (Am : Option Addr) (cm : Nat) (Al : Option Addr) (cl : Nat),
    At wr G b n sh m l ∧ wr.heap[d]? = some (.cells #[.int .i64 n, .slice Am m.length cm, .bool sh, .slice Al l.length cl] 50 (0, 0)) ∧
    PB ≤ w0.heap.size ∧ Kd.F uk wr (fun k => k < PB) Am m.length m ∧ m.length ≤ cm ∧ ik.R 3 wr 0 GL (.slice Al l.length cl) l ∧
    (∀ k, G k → w0.heap.size ≤ k ∧ k ≠ d ∧ ¬ GL k ∧ k < wr.heap.size) ∧ (∀ k, GL k → w0.heap.size ≤ k ∧ k ≠ d ∧ k < wr.heap.size) ∧ w0.heap.size ≤ d ∧ Below w0.heap.size w0 wr
/-- What is stored into the box. -/
theorem Two.put {w0 w5 : World} {G4 GL5 : Nat → Prop} {PB b d n : Nat} {sh : Bool} {m l : List Int} {Am Al : Option Addr} {cm cl : Nat} {cs : Array Value} (h4 : At w5 G4 b n sh m l) (hd : w5.heap[d]? = some (.cells cs 50 (0, 0))) (hcs : cs.size = 4)
    (hP : PB ≤ w0.heap.size) (hm : Kd.F uk w5 (fun k => k < PB) Am m.length m) (hmc : m.length ≤ cm) (hl : ik.R 3 w5 0 GL5 (.slice Al l.length cl) l)
    (hG : ∀ k, G4 k → w0.heap.size ≤ k ∧ k ≠ d ∧ ¬ GL5 k ∧ k < w5.heap.size) (hGL : ∀ k, GL5 k → w0.heap.size ≤ k ∧ k ≠ d) (hdw : w0.heap.size ≤ d) (hb : Below w0.heap.size w0 w5) :
    Two PB w0 ((((w5.setCell ⟨d, 0, none⟩ (.int .i64 n)).setCell ⟨d, 1, none⟩ (.slice Am m.length cm)).setCell ⟨d, 2, none⟩ (.bool sh)).setCell ⟨d, 3, none⟩ (.slice Al l.length cl)) b d n sh m l := by
  have hX : Upd w5 _ (fun k => k = d) := upd4 w5 w5 (fun k => k = d) (Upd.refl _ _) d (.inl rfl) (.int .i64 n) (.slice Am m.length cm) (.bool sh) (.slice Al l.length cl)
  refine ⟨G4, fun k => GL5 k ∧ k < w5.heap.size, Am, cm, Al, cl, h4.upd' hX (fun k hk _ h => (hG k hk).2.1 h), set4 hd hcs, hP, Kd.F_kept hm hX.kept (fun k hk h => by omega), hmc, R_upd hl hX (fun k hk _ h => (hGL k hk).2 h), ?_, ?_, hdw, hb.upd (below_size hb) hX (fun k hk => by omega)⟩
  · intro k hk
    have := hG k hk
    exact ⟨this.1, this.2.1, fun h => this.2.2.1 h.1, Nat.lt_of_lt_of_le this.2.2.2 hX.size⟩
  · intro k hk
    have := hGL k hk.1
    exact ⟨this.1, this.2, Nat.lt_of_lt_of_le hk.2 hX.size⟩
end Go.Proofs.Ytdmhlfjocajinaa.BdOp
