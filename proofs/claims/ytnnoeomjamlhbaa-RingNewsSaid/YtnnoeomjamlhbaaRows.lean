/-
  No cell of these rows narrows 'for every input' (looked for: loops, veiled, ifaces, maps, wideKeys, modest, calm, conditions, laid).
  DERIVED. THE GIVEN ROWS OF THIS SEAT. 6 by the template 'for every input the law returns true; each argument reads behind the call as it read before'; 0 by the template 'total and deterministic' (their statements: YtnnoeomjamlhbaaTotals.lean).
  GIVEN WITH THE SEED: the statements are not yours to turn. If you find one false, say at which input.
  Laid BY PROGRAM, IN A SANDBOX (cutbox-rows.mjs): the forced cells as the released guide's own fill.sh prints them over the translation d8a07ea5bac34b04… (all of the seat's roots in one cut). By AI agents, Wed Nov 11 2026. No macro, syntax, notation, axiom, sorry.
-/
import Derived.Test.YtnnoeomjamlhbaaChecked
import GoSem.Claim
import GoSem.ClaimJoined
import GoSem.ClaimMapViews
import Derived.JoinedTies
import Derived.KernelRfl
namespace Go.Proofs.Ytnnoeomjamlhbaa
/- THE CELL 'sum', in the pinned program and in every row, IS THE sha256 OF THE DUMP (.gsa) THAT YtnnoeomjamlhbaaProg.lean LOADS. Nothing in Lean hashes anything: it is a label: what it is worth is what the hold of that sum in a sandbox is worth. -/
noncomputable def Try.pinned : Pinned := { name := "ytnnoeomjamlhbaa", sum := "d8a07ea5bac34b04fc06dbd974f735de6468a4984d250366245cedba173a4c36", checked := Try.checked }
namespace Rows
def none {H : Type} : Left H := { results := [], args := [] }

/-- 'monocoquelaw03.RingOrder': WHATEVER THE INPUT: true; the input reads as it did. -/
def ringOrderSpec : ChangeSpec := { name := "ringOrder", fn := fun _ => fun
  | [d] => { results := [.lit (.bool true)], args := [d] }
  | _ => none }
def ringOrderRow : OpenClaim := { program := "ytnnoeomjamlhbaa", sum := "d8a07ea5bac34b04fc06dbd974f735de6468a4984d250366245cedba173a4c36", func := "monocoque/monocoquelaw03.RingOrder", spec := "ringOrder", apart := false }
def RingOrderSaid : Prop := ringOrderRow.holds Try.pinned (OpenSpec.ofChange ringOrderSpec)

/-- ITS FALSE NEIGHBOUR: 'it returns false'. Refute it at one input. -/
def ringOrderWrong : ChangeSpec := { name := "ringOrder", fn := fun _ => fun
  | [d] => { results := [.lit (.bool false)], args := [d] }
  | _ => none }
def RingOrderWrongFalsely : Prop := ringOrderRow.holds Try.pinned (OpenSpec.ofChange ringOrderWrong)

/-- 'monocoquelaw03.RingRounds': WHATEVER THE INPUT: true; the input reads as it did. -/
def ringRoundsSpec : ChangeSpec := { name := "ringRounds", fn := fun _ => fun
  | [d1, d2] => { results := [.lit (.bool true)], args := [d1, d2] }
  | _ => none }
def ringRoundsRow : OpenClaim := { program := "ytnnoeomjamlhbaa", sum := "d8a07ea5bac34b04fc06dbd974f735de6468a4984d250366245cedba173a4c36", func := "monocoque/monocoquelaw03.RingRounds", spec := "ringRounds", apart := false }
def RingRoundsSaid : Prop := ringRoundsRow.holds Try.pinned (OpenSpec.ofChange ringRoundsSpec)

/-- ITS FALSE NEIGHBOUR: 'it returns false'. Refute it at one input. -/
def ringRoundsWrong : ChangeSpec := { name := "ringRounds", fn := fun _ => fun
  | [d1, d2] => { results := [.lit (.bool false)], args := [d1, d2] }
  | _ => none }
def RingRoundsWrongFalsely : Prop := ringRoundsRow.holds Try.pinned (OpenSpec.ofChange ringRoundsWrong)

/-- 'monocoquelaw03.RingOwn': WHATEVER THE INPUT: true; the input reads as it did. -/
def ringOwnSpec : ChangeSpec := { name := "ringOwn", fn := fun _ => fun
  | [d1, d2] => { results := [.lit (.bool true)], args := [d1, d2] }
  | _ => none }
def ringOwnRow : OpenClaim := { program := "ytnnoeomjamlhbaa", sum := "d8a07ea5bac34b04fc06dbd974f735de6468a4984d250366245cedba173a4c36", func := "monocoque/monocoquelaw03.RingOwn", spec := "ringOwn", apart := false }
def RingOwnSaid : Prop := ringOwnRow.holds Try.pinned (OpenSpec.ofChange ringOwnSpec)

/-- ITS FALSE NEIGHBOUR: 'it returns false'. Refute it at one input. -/
def ringOwnWrong : ChangeSpec := { name := "ringOwn", fn := fun _ => fun
  | [d1, d2] => { results := [.lit (.bool false)], args := [d1, d2] }
  | _ => none }
def RingOwnWrongFalsely : Prop := ringOwnRow.holds Try.pinned (OpenSpec.ofChange ringOwnWrong)

/-- 'monocoquelaw03.RingActs': WHATEVER THE INPUT: true; the input reads as it did. -/
def ringActsSpec : ChangeSpec := { name := "ringActs", fn := fun _ => fun
  | [d1, d2, d3] => { results := [.lit (.bool true)], args := [d1, d2, d3] }
  | _ => none }
def ringActsRow : OpenClaim := { program := "ytnnoeomjamlhbaa", sum := "d8a07ea5bac34b04fc06dbd974f735de6468a4984d250366245cedba173a4c36", func := "monocoque/monocoquelaw03.RingActs", spec := "ringActs", apart := false }
def RingActsSaid : Prop := ringActsRow.holds Try.pinned (OpenSpec.ofChange ringActsSpec)

/-- ITS FALSE NEIGHBOUR: 'it returns false'. Refute it at one input. -/
def ringActsWrong : ChangeSpec := { name := "ringActs", fn := fun _ => fun
  | [d1, d2, d3] => { results := [.lit (.bool false)], args := [d1, d2, d3] }
  | _ => none }
def RingActsWrongFalsely : Prop := ringActsRow.holds Try.pinned (OpenSpec.ofChange ringActsWrong)

/-- 'monocoquelaw03.RingClones': WHATEVER THE INPUT: true; the input reads as it did. -/
def ringClonesSpec : ChangeSpec := { name := "ringClones", fn := fun _ => fun
  | [d1, d2, d3] => { results := [.lit (.bool true)], args := [d1, d2, d3] }
  | _ => none }
def ringClonesRow : OpenClaim := { program := "ytnnoeomjamlhbaa", sum := "d8a07ea5bac34b04fc06dbd974f735de6468a4984d250366245cedba173a4c36", func := "monocoque/monocoquelaw03.RingClones", spec := "ringClones", unfollowed := true, recurses := true, apart := false }
def RingClonesSaid : Prop := ringClonesRow.holds Try.pinned (OpenSpec.ofChange ringClonesSpec)

/-- ITS FALSE NEIGHBOUR: 'it returns false'. Refute it at one input. -/
def ringClonesWrong : ChangeSpec := { name := "ringClones", fn := fun _ => fun
  | [d1, d2, d3] => { results := [.lit (.bool false)], args := [d1, d2, d3] }
  | _ => none }
def RingClonesWrongFalsely : Prop := ringClonesRow.holds Try.pinned (OpenSpec.ofChange ringClonesWrong)

/-- 'monocoquelaw03.RingNews': WHATEVER THE INPUT: true; the input reads as it did. -/
def ringNewsSpec : ChangeSpec := { name := "ringNews", fn := fun _ => fun
  | [d1, d2] => { results := [.lit (.bool true)], args := [d1, d2] }
  | _ => none }
def ringNewsRow : OpenClaim := { program := "ytnnoeomjamlhbaa", sum := "d8a07ea5bac34b04fc06dbd974f735de6468a4984d250366245cedba173a4c36", func := "monocoque/monocoquelaw03.RingNews", spec := "ringNews", unfollowed := true, recurses := true, apart := false }
def RingNewsSaid : Prop := ringNewsRow.holds Try.pinned (OpenSpec.ofChange ringNewsSpec)

/-- ITS FALSE NEIGHBOUR: 'it returns false'. Refute it at one input. -/
def ringNewsWrong : ChangeSpec := { name := "ringNews", fn := fun _ => fun
  | [d1, d2] => { results := [.lit (.bool false)], args := [d1, d2] }
  | _ => none }
def RingNewsWrongFalsely : Prop := ringNewsRow.holds Try.pinned (OpenSpec.ofChange ringNewsWrong)

/- THE SECOND FORM. 'bulk': how many values and letters a reading holds, each counted each time it is reached (what is shared counts as often as it is met; a slice's spare places count too). A statement '..UptoSaid' is the law's where the arguments, and the package variables that the reading takes, are together of bulk at most 1048576: NARROWER than '..Said'. Prove '..Said' where nothing that the law and all that it calls make is longer than what came in: it says more and counts as full. Else prove '..UptoSaid'. A law counts once. -/
mutual
def uptoBulk {H : Type} : DataW H → Nat
  | .lit (.string bytes) => bytes.length + 1
  | .lit _ => 1
  | .nil => 1
  | .ptr d => uptoBulk d + 1
  | .slice elems spare => uptoBulkAll elems + uptoBulkAll spare + 1
  | .agg parts => uptoBulkAll parts + 1
  | .iface _ d => uptoBulk d + 1
  | .map entries => uptoBulkEntries entries + 1
  | .held _ => 1
def uptoBulkAll {H : Type} : List (DataW H) → Nat
  | [] => 0
  | d :: r => uptoBulk d + uptoBulkAll r
def uptoBulkEntries {H : Type} : List (Lit × DataW H) → Nat
  | [] => 0
  | x :: r => uptoBulkEntry x + uptoBulkEntries r
def uptoBulkEntry {H : Type} : Lit × DataW H → Nat
  | (.string bytes, d) => bytes.length + uptoBulk d + 1
  | (_, d) => uptoBulk d + 1
 end
def uptoSmall : (H : Type) → List (DataW H) → Bool := fun _ ds => decide (uptoBulkAll ds ≤ 1048576)
def OpenSpec.upto (s : _root_.Go.ChangeSpec) : _root_.Go.OpenSpec := { _root_.Go.OpenSpec.ofChange s with cond := some uptoSmall }

/-- 'monocoquelaw03.RingOrder', WHERE WHAT IT READS IS OF BULK AT MOST 1048576: true; the input reads as it did. -/
def ringOrderUptoRow : OpenClaim := { program := "ytnnoeomjamlhbaa", sum := "d8a07ea5bac34b04fc06dbd974f735de6468a4984d250366245cedba173a4c36", func := "monocoque/monocoquelaw03.RingOrder", spec := "ringOrder", apart := false, narrowed := true }
def RingOrderUptoSaid : Prop := ringOrderUptoRow.holds Try.pinned (OpenSpec.upto ringOrderSpec)

/-- 'monocoquelaw03.RingRounds', WHERE WHAT IT READS IS OF BULK AT MOST 1048576: true; the input reads as it did. -/
def ringRoundsUptoRow : OpenClaim := { program := "ytnnoeomjamlhbaa", sum := "d8a07ea5bac34b04fc06dbd974f735de6468a4984d250366245cedba173a4c36", func := "monocoque/monocoquelaw03.RingRounds", spec := "ringRounds", apart := false, narrowed := true }
def RingRoundsUptoSaid : Prop := ringRoundsUptoRow.holds Try.pinned (OpenSpec.upto ringRoundsSpec)

/-- 'monocoquelaw03.RingOwn', WHERE WHAT IT READS IS OF BULK AT MOST 1048576: true; the input reads as it did. -/
def ringOwnUptoRow : OpenClaim := { program := "ytnnoeomjamlhbaa", sum := "d8a07ea5bac34b04fc06dbd974f735de6468a4984d250366245cedba173a4c36", func := "monocoque/monocoquelaw03.RingOwn", spec := "ringOwn", apart := false, narrowed := true }
def RingOwnUptoSaid : Prop := ringOwnUptoRow.holds Try.pinned (OpenSpec.upto ringOwnSpec)

/-- 'monocoquelaw03.RingActs', WHERE WHAT IT READS IS OF BULK AT MOST 1048576: true; the input reads as it did. -/
def ringActsUptoRow : OpenClaim := { program := "ytnnoeomjamlhbaa", sum := "d8a07ea5bac34b04fc06dbd974f735de6468a4984d250366245cedba173a4c36", func := "monocoque/monocoquelaw03.RingActs", spec := "ringActs", apart := false, narrowed := true }
def RingActsUptoSaid : Prop := ringActsUptoRow.holds Try.pinned (OpenSpec.upto ringActsSpec)

/-- 'monocoquelaw03.RingClones', WHERE WHAT IT READS IS OF BULK AT MOST 1048576: true; the input reads as it did. -/
def ringClonesUptoRow : OpenClaim := { program := "ytnnoeomjamlhbaa", sum := "d8a07ea5bac34b04fc06dbd974f735de6468a4984d250366245cedba173a4c36", func := "monocoque/monocoquelaw03.RingClones", spec := "ringClones", unfollowed := true, recurses := true, apart := false, narrowed := true }
def RingClonesUptoSaid : Prop := ringClonesUptoRow.holds Try.pinned (OpenSpec.upto ringClonesSpec)

/-- 'monocoquelaw03.RingNews', WHERE WHAT IT READS IS OF BULK AT MOST 1048576: true; the input reads as it did. -/
def ringNewsUptoRow : OpenClaim := { program := "ytnnoeomjamlhbaa", sum := "d8a07ea5bac34b04fc06dbd974f735de6468a4984d250366245cedba173a4c36", func := "monocoque/monocoquelaw03.RingNews", spec := "ringNews", unfollowed := true, recurses := true, apart := false, narrowed := true }
def RingNewsUptoSaid : Prop := ringNewsUptoRow.holds Try.pinned (OpenSpec.upto ringNewsSpec)

end Rows
end Go.Proofs.Ytnnoeomjamlhbaa
