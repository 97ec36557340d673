import Derived.Test.YtdmhlfjocajinaaBdOp
set_option linter.unusedVariables false
set_option linter.unusedSimpArgs false
namespace Go.Proofs.Ytdmhlfjocajinaa.BdOp2
open Go.RowKit Go.Proofs.YtdmhlfjocajinaaW.PrintWords Go.Proofs.Ytdmhlfjocajinaa.Own Go.Proofs.Ytdmhlfjocajinaa.Own2 Go.Proofs.Ytdmhlfjocajinaa.Own3 Go.Proofs.Ytdmhlfjocajinaa.Board Go.Proofs.Ytdmhlfjocajinaa.BdSp Go.Proofs.Ytdmhlfjocajinaa.BdRef Go.Proofs.Ytdmhlfjocajinaa.BdOp

/-- Who is woken by a Show, and the error. -/
def showR (n : Nat) (x q : List Int) : List Int × Int := if x.length ≤ n then (q, 0) else ([], 2)
/-- What is read. -/
def readR (sh : Bool) (m : List Int) : List Int := if sh = true then m else []

theorem code_show (w : World) (G : Nat → Prop) (b n : Nat) (sh sh' : Bool) (m m' q q' wk : List Int) (f : Int) (A : Option Addr) (c : Nat) (x : List Int) (h : At w G b n sh m q) (hx : Kd.F uk w (fun k => k ≠ b) A x.length x) (hn : n ≤ 32) (hs : (sh', m', q') = opS n (.show x) sh m q) (hk : (wk, f) = showR n x q) :
    Calls Try.prog 12 #[.pointer (some ⟨b, 0, none⟩), .slice A x.length c] w fun e w' => ∃ A' c', e = .returned (.tuple #[.slice A' wk.length c', .int .i64 f]) ∧ ik.C w' A' wk.length wk ∧ At w' (fun k => G k ∨ w.heap.size ≤ k) b n sh' m' q' ∧ Upd w w' G := by
  replace hs : (sh', m', q') = if x.length ≤ n then (true, x, []) else (sh, m, q) := hs
  unfold showR at hk
  by_cases hl : x.length ≤ n
  · rw [if_pos hl] at hs hk
    injection hs with e1 e2
    injection e2 with e2 e3
    injection hk with e4 e5
    subst e1 e2 e3 e4 e5
    refine (show_calls w G b n sh m _ A c _ h hx hl (by omega)).mono ?_
    rintro e w' ⟨v, rfl, hr, ha, hu⟩
    obtain ⟨A', c', rfl⟩ := Kd.R_slice hr
    exact ⟨_, _, rfl, (Kd.R_reads' hr).2.2, ha.mono (fun k hk => hk.elim (fun e => .inl (e ▸ h.1)) .inr), hu.mono (fun k hk => hk ▸ h.1)⟩
  · rw [if_neg hl] at hs hk
    injection hs with e1 e2
    injection e2 with e2 e3
    injection hk with e4 e5
    subst e1 e2 e3 e4 e5
    refine (show_long w G b n _ _ _ A x.length c h (by omega)).mono ?_
    rintro e w' ⟨rfl, rfl⟩
    exact ⟨none, 0, rfl, Kd.C_nil _ _, h.mono (fun k hk => .inl hk), Upd.refl _ _⟩
theorem code_drop (w : World) (G : Nat → Prop) (b n : Nat) (sh sh' : Bool) (m m' q q' : List Int) (id : Int) (t : Bool) (h : At w G b n sh m q) (hq : q.length ≤ 1000000) (hs : (sh', m', q') = opS n (.drop id) sh m q) (ht : t = hasB q id) :
    Calls Try.prog 20 #[.pointer (some ⟨b, 0, none⟩), .int .i64 id] w fun e w' => e = .returned (.bool t) ∧ At w' (fun k => G k ∨ w.heap.size ≤ k) b n sh' m' q' ∧ Upd w w' G := by
  injection hs with e1 e2
  injection e2 with e2 e3
  subst e1 e2 e3 ht
  cases hin : hasB q id with
  | true =>
    refine (drop_yes w G b n _ _ q id h hq hin).mono ?_
    rintro e w' ⟨rfl, ha, hu⟩
    exact ⟨rfl, ha.mono (fun k hk => .inl hk), hu⟩
  | false =>
    refine (drop_no w G b n _ _ q id h hq hin).mono ?_
    rintro e w' ⟨rfl, hu⟩
    rw [(has_not hin).2]
    exact ⟨rfl, (h.upd0 hu).mono (fun k hk => .inl hk), hu.mono (fun k hk => hk.elim)⟩
theorem code_read (w : World) (G : Nat → Prop) (b n : Nat) (sh sh' : Bool) (m m' q q' rm : List Int) (id : Int) (h : At w G b n sh m q) (hm : m.length ≤ 100000) (hq : q.length ≤ 1000000) (hs : (sh', m', q') = opS n (.read id) sh m q) (hk : rm = readR sh m) :
    Calls Try.prog 14 #[.pointer (some ⟨b, 0, none⟩), .int .i64 id] w fun e w' => ∃ A' c', e = .returned (.tuple #[.slice A' rm.length c', .bool sh]) ∧ uk.C w' A' rm.length rm ∧ At w' (fun k => G k ∨ w.heap.size ≤ k) b n sh' m' q' ∧ Upd w w' G := by
  injection hs with e1 e2
  injection e2 with e2 e3
  subst e1 e2 e3 hk
  cases sh' with
  | true =>
    refine (read_yes w G b n _ q id h hm).mono ?_
    rintro e w' ⟨v, rfl, hr, hu⟩
    obtain ⟨A', c', rfl⟩ := Kd.R_slice hr
    exact ⟨_, _, rfl, (Kd.R_reads' hr).2.2, (h.upd0 hu).mono (fun k hk => .inl hk), hu.mono (fun k hk => hk.elim)⟩
  | false =>
    refine (read_no w G b n _ q id h hq).mono ?_
    rintro e w' ⟨rfl, ha, hu⟩
    exact ⟨none, 0, rfl, Kd.C_nil _ _, ha, hu⟩
theorem doc_show (w : World) (P GL : Nat → Prop) (n : Nat) (Am : Option Addr) (cm : Nat) (Al : Option Addr) (cl : Nat) (sh sh' : Bool) (m m' q q' wk : List Int) (f : Int) (A : Option Addr) (c : Nat) (x : List Int) (hm : Kd.F uk w P Am m.length m) (hmc : m.length ≤ cm) (hq : ik.R 3 w 0 GL (.slice Al q.length cl) q) (hx : Kd.F uk w P A x.length x) (hxc : x.length ≤ c) (hs : (sh', m', q') = opS n (.show x) sh m q) (hk : (wk, f) = showR n x q) :
    Calls Try.prog 23 #[.agg #[.int .i64 n, .slice Am m.length cm, .bool sh, .slice Al q.length cl], .slice A x.length c] w fun e w' => ∃ v A' c', e = .returned (.tuple #[v, .slice A' wk.length c', .int .i64 f]) ∧ Doc w' P (fun k => GL k ∨ w.heap.size ≤ k) n sh' m' q' v ∧ ik.C w' A' wk.length wk ∧ Upd w w' (fun _ => False) := by
  replace hs : (sh', m', q') = if x.length ≤ n then (true, x, []) else (sh, m, q) := hs
  unfold showR at hk
  by_cases hl : x.length ≤ n
  · rw [if_pos hl] at hs hk
    injection hs with e1 e2
    injection e2 with e2 e3
    injection hk with e4 e5
    subst e1 e2 e3 e4 e5
    refine (rshow_ok w n Am m.length cm sh Al _ cl A _ c hl).mono ?_
    rintro e w' ⟨rfl, hu⟩
    exact ⟨_, _, _, rfl, ⟨_, _, none, 0, rfl, Kd.F_kept hx hu.kept (fun _ _ h => h), hxc, Kd.R_nil _ _ _ _ _⟩, (Kd.R_reads' (R_upd0 hq hu)).2.2, hu⟩
  · rw [if_neg hl] at hs hk
    injection hs with e1 e2
    injection e2 with e2 e3
    injection hk with e4 e5
    subst e1 e2 e3 e4 e5
    refine (rshow_long w n Am _ cm _ Al _ cl A _ c (by omega)).mono ?_
    rintro e w' ⟨rfl, hu⟩
    exact ⟨_, none, 0, rfl, ⟨_, _, _, _, rfl, Kd.F_kept hm hu.kept (fun _ _ h => h), hmc, Kd.R_mono (R_upd0 hq hu) (fun k hk => .inl hk)⟩, Kd.C_nil _ _, hu⟩
theorem doc_drop (w : World) (P GL : Nat → Prop) (n : Nat) (Am : Option Addr) (cm : Nat) (Al : Option Addr) (cl : Nat) (sh sh' : Bool) (m m' q q' : List Int) (id : Int) (t : Bool) (hm : Kd.F uk w P Am m.length m) (hmc : m.length ≤ cm) (hq : ik.R 3 w 0 GL (.slice Al q.length cl) q) (hql : q.length ≤ 1000000) (hs : (sh', m', q') = opS n (.drop id) sh m q) (ht : t = hasB q id) :
    Calls Try.prog 25 #[.agg #[.int .i64 n, .slice Am m.length cm, .bool sh, .slice Al q.length cl], .int .i64 id] w fun e w' => ∃ v, e = .returned (.tuple #[v, .bool t]) ∧ Doc w' P (fun k => GL k ∨ w.heap.size ≤ k) n sh' m' q' v ∧ Upd w w' (fun _ => False) := by
  injection hs with e1 e2
  injection e2 with e2 e3
  subst e1 e2 e3 ht
  have hC := (Kd.R_reads' hq)
  cases hin : hasB q id with
  | true =>
    refine (rdrop_yes w n Am _ cm _ Al q cl id hC.2.2 hC.2.1 hql hin).mono ?_
    rintro e w' ⟨v, rfl, hr, hu⟩
    obtain ⟨A2, c2, rfl⟩ := Kd.R_slice hr
    exact ⟨_, rfl, ⟨_, _, _, _, rfl, Kd.F_kept hm hu.kept (fun _ _ h => h), hmc, Kd.R_mono hr (fun k hk => .inr hk)⟩, hu⟩
  | false =>
    refine (rdrop_no w n Am _ cm _ Al q cl id hC.2.2 hin).mono ?_
    rintro e w' ⟨rfl, hu⟩
    rw [(has_not hin).2]
    exact ⟨_, rfl, ⟨_, _, _, _, rfl, Kd.F_kept hm hu.kept (fun _ _ h => h), hmc, Kd.R_mono (R_upd0 hq hu) (fun k hk => .inl hk)⟩, hu⟩
theorem doc_read (w : World) (P GL : Nat → Prop) (n : Nat) (Am : Option Addr) (cm : Nat) (Al : Option Addr) (cl : Nat) (sh sh' : Bool) (m m' q q' rm : List Int) (id : Int) (hm : Kd.F uk w P Am m.length m) (hmc : m.length ≤ cm) (hq : ik.R 3 w 0 GL (.slice Al q.length cl) q) (hql : q.length ≤ 1000000) (hs : (sh', m', q') = opS n (.read id) sh m q) (hk : rm = readR sh m) :
    Calls Try.prog 26 #[.agg #[.int .i64 n, .slice Am m.length cm, .bool sh, .slice Al q.length cl], .int .i64 id] w fun e w' => ∃ v A' c', e = .returned (.tuple #[v, .slice A' rm.length c', .bool sh]) ∧ Doc w' P (fun k => GL k ∨ w.heap.size ≤ k) n sh' m' q' v ∧ uk.C w' A' rm.length rm ∧ Upd w w' (fun _ => False) := by
  injection hs with e1 e2
  injection e2 with e2 e3
  subst e1 e2 e3 hk
  have hC := (Kd.R_reads' hq)
  cases sh' with
  | true =>
    refine (rread_yes w n Am _ cm Al _ cl id).mono ?_
    rintro e w' ⟨rfl, hu⟩
    exact ⟨_, _, _, rfl, ⟨_, _, _, _, rfl, Kd.F_kept hm hu.kept (fun _ _ h => h), hmc, Kd.R_mono (R_upd0 hq hu) (fun k hk => .inl hk)⟩, Kd.F_now (Kd.F_kept hm hu.kept (fun _ _ h => h)), hu⟩
  | false =>
    cases hin : hasB q id with
    | true =>
      refine (rread_has w n Am _ cm Al q cl id hC.2.2 hC.2.1 hin).mono ?_
      rintro e w' ⟨rfl, hu⟩
      rw [show waitL false q id = q by simp [waitL, hin]]
      exact ⟨_, none, 0, rfl, ⟨_, _, _, _, rfl, Kd.F_kept hm hu.kept (fun _ _ h => h), hmc, Kd.R_mono (R_upd0 hq hu) (fun k hk => .inl hk)⟩, Kd.C_nil _ _, hu⟩
    | false =>
      refine (rread_new w n Am _ cm Al q cl id hC.2.2 hql hin).mono ?_
      rintro e w' ⟨v, rfl, hr, hu⟩
      rw [show waitL false q id = q ++ [id] by simp [waitL, hin]]
      obtain ⟨A2, c2, rfl⟩ := Kd.R_slice hr
      exact ⟨_, none, 0, rfl, ⟨_, _, _, _, rfl, Kd.F_kept hm hu.kept (fun _ _ h => h), hmc, Kd.R_mono hr (fun k hk => .inr hk)⟩, Kd.C_nil _ _, hu⟩
/-- What the code tells of what is shown. -/
theorem code_shown (w : World) (G : Nat → Prop) (b n : Nat) (sh : Bool) (m q : List Int) (h : At w G b n sh m q) (hm : m.length ≤ 100000) (he : sh = false → m = []) :
    Calls Try.prog 13 #[.pointer (some ⟨b, 0, none⟩)] w fun e w' => ∃ A' c', e = .returned (.tuple #[.slice A' m.length c', .bool sh]) ∧ uk.C w' A' m.length m ∧ Upd w w' (fun _ => False) := by
  cases sh with
  | true =>
    refine (shown_yes w G b n m q h hm).mono ?_
    rintro e w' ⟨v, rfl, hr, hu⟩
    obtain ⟨A', c', rfl⟩ := Kd.R_slice hr
    exact ⟨_, _, rfl, (Kd.R_reads' hr).2.2, hu⟩
  | false =>
    have := he rfl
    subst this
    refine (shown_no w G b n [] q h).mono ?_
    rintro e w' ⟨rfl, rfl⟩
    exact ⟨none, 0, rfl, Kd.C_nil _ _, Upd.refl _ _⟩
theorem opS_shown {n : Nat} {o : BdOp.Op} {sh sh' : Bool} {m m' q q' : List Int} (hs : (sh', m', q') = opS n o sh m q) (he : sh = false → m = []) : sh' = false → m' = [] := by
  cases o with
  | «show» x =>
    replace hs : (sh', m', q') = if x.length ≤ n then (true, x, []) else (sh, m, q) := hs
    by_cases hl : x.length ≤ n
    · rw [if_pos hl] at hs
      injection hs with e1 e2; injection e2 with e2 e3; subst e1 e2 e3; intro h; cases h
    · rw [if_neg hl] at hs
      injection hs with e1 e2; injection e2 with e2 e3; subst e1 e2 e3; exact he
  | clear => injection hs with e1 e2; injection e2 with e2 e3; subst e1 e2 e3; intro _; rfl
  | drop id => injection hs with e1 e2; injection e2 with e2 e3; subst e1 e2 e3; exact he
  | read id => injection hs with e1 e2; injection e2 with e2 e3; subst e1 e2 e3; exact he
end Go.Proofs.Ytdmhlfjocajinaa.BdOp2
