/-
  No cell of these rows narrows 'for every input' (looked for: loops, veiled, ifaces, maps, wideKeys, modest, calm, conditions, laid).
  DERIVED. THE GIVEN ROWS OF THIS SEAT. 9 by the template 'for every input the law returns true; each argument reads behind the call as it read before'; 0 by the template 'total and deterministic' (their statements: YtekfbafljilchaaTotals.lean).
  GIVEN WITH THE SEED: the statements are not yours to turn. If you find one false, say at which input.
  Laid BY PROGRAM, IN A SANDBOX (cutbox-rows.mjs): the forced cells as the released guide's own fill.sh prints them over the translation 296e9fbe682cd5bd… (all of the seat's roots in one cut). By AI agents, Wed Nov 11 2026. No macro, syntax, notation, axiom, sorry.
-/
import Derived.Test.YtekfbafljilchaaChecked
import GoSem.Claim
import GoSem.ClaimJoined
import GoSem.ClaimMapViews
import Derived.JoinedTies
import Derived.KernelRfl
namespace Go.Proofs.Ytekfbafljilchaa
/- THE CELL 'sum', in the pinned program and in every row, IS THE sha256 OF THE DUMP (.gsa) THAT YtekfbafljilchaaProg.lean LOADS. Nothing in Lean hashes anything: it is a label: what it is worth is what the hold of that sum in a sandbox is worth. -/
noncomputable def Try.pinned : Pinned := { name := "ytekfbafljilchaa", sum := "296e9fbe682cd5bd62fc09f15d71e17a7dd8f985fd58255fb7e0f065d901ba00", checked := Try.checked }
namespace Rows
def none {H : Type} : Left H := { results := [], args := [] }

/-- 'pennantlaw15.ChooseFits': WHATEVER THE INPUT: true; the input reads as it did. -/
def chooseFitsSpec : ChangeSpec := { name := "chooseFits", fn := fun _ => fun
  | [d1, d2] => { results := [.lit (.bool true)], args := [d1, d2] }
  | _ => none }
def chooseFitsRow : OpenClaim := { program := "ytekfbafljilchaa", sum := "296e9fbe682cd5bd62fc09f15d71e17a7dd8f985fd58255fb7e0f065d901ba00", func := "pennant/pennantlaw15.ChooseFits", spec := "chooseFits", unfollowed := true, recurses := true, apart := false }
def ChooseFitsSaid : Prop := chooseFitsRow.holds Try.pinned (OpenSpec.ofChange chooseFitsSpec)

/-- ITS FALSE NEIGHBOUR: 'it returns false'. Refute it at one input. -/
def chooseFitsWrong : ChangeSpec := { name := "chooseFits", fn := fun _ => fun
  | [d1, d2] => { results := [.lit (.bool false)], args := [d1, d2] }
  | _ => none }
def ChooseFitsWrongFalsely : Prop := chooseFitsRow.holds Try.pinned (OpenSpec.ofChange chooseFitsWrong)

/-- 'pennantlaw14.SetsNothing': WHATEVER THE INPUT: true; the input reads as it did. -/
def setsNothingSpec : ChangeSpec := { name := "setsNothing", fn := fun _ => fun
  | [d1, d2] => { results := [.lit (.bool true)], args := [d1, d2] }
  | _ => none }
def setsNothingRow : OpenClaim := { program := "ytekfbafljilchaa", sum := "296e9fbe682cd5bd62fc09f15d71e17a7dd8f985fd58255fb7e0f065d901ba00", func := "pennant/pennantlaw14.SetsNothing", spec := "setsNothing", unfollowed := true, recurses := true, apart := false }
def SetsNothingSaid : Prop := setsNothingRow.holds Try.pinned (OpenSpec.ofChange setsNothingSpec)

/-- ITS FALSE NEIGHBOUR: 'it returns false'. Refute it at one input. -/
def setsNothingWrong : ChangeSpec := { name := "setsNothing", fn := fun _ => fun
  | [d1, d2] => { results := [.lit (.bool false)], args := [d1, d2] }
  | _ => none }
def SetsNothingWrongFalsely : Prop := setsNothingRow.holds Try.pinned (OpenSpec.ofChange setsNothingWrong)

/-- 'pennantlaw13.LatticeSays': WHATEVER THE INPUT: true; the input reads as it did. -/
def latticeSaysSpec : ChangeSpec := { name := "latticeSays", fn := fun _ => fun
  | [d1, d2] => { results := [.lit (.bool true)], args := [d1, d2] }
  | _ => none }
def latticeSaysRow : OpenClaim := { program := "ytekfbafljilchaa", sum := "296e9fbe682cd5bd62fc09f15d71e17a7dd8f985fd58255fb7e0f065d901ba00", func := "pennant/pennantlaw13.LatticeSays", spec := "latticeSays", unfollowed := true, recurses := true, apart := false }
def LatticeSaysSaid : Prop := latticeSaysRow.holds Try.pinned (OpenSpec.ofChange latticeSaysSpec)

/-- ITS FALSE NEIGHBOUR: 'it returns false'. Refute it at one input. -/
def latticeSaysWrong : ChangeSpec := { name := "latticeSays", fn := fun _ => fun
  | [d1, d2] => { results := [.lit (.bool false)], args := [d1, d2] }
  | _ => none }
def LatticeSaysWrongFalsely : Prop := latticeSaysRow.holds Try.pinned (OpenSpec.ofChange latticeSaysWrong)

/-- 'pennantlaw13.LatticeLegal': WHATEVER THE INPUT: true; the input reads as it did. -/
def latticeLegalSpec : ChangeSpec := { name := "latticeLegal", fn := fun _ => fun
  | [d1, d2] => { results := [.lit (.bool true)], args := [d1, d2] }
  | _ => none }
def latticeLegalRow : OpenClaim := { program := "ytekfbafljilchaa", sum := "296e9fbe682cd5bd62fc09f15d71e17a7dd8f985fd58255fb7e0f065d901ba00", func := "pennant/pennantlaw13.LatticeLegal", spec := "latticeLegal", unfollowed := true, recurses := true, apart := false }
def LatticeLegalSaid : Prop := latticeLegalRow.holds Try.pinned (OpenSpec.ofChange latticeLegalSpec)

/-- ITS FALSE NEIGHBOUR: 'it returns false'. Refute it at one input. -/
def latticeLegalWrong : ChangeSpec := { name := "latticeLegal", fn := fun _ => fun
  | [d1, d2] => { results := [.lit (.bool false)], args := [d1, d2] }
  | _ => none }
def LatticeLegalWrongFalsely : Prop := latticeLegalRow.holds Try.pinned (OpenSpec.ofChange latticeLegalWrong)

/-- 'pennantlaw13.LatticeCommon': WHATEVER THE INPUT: true; the input reads as it did. -/
def latticeCommonSpec : ChangeSpec := { name := "latticeCommon", fn := fun _ => fun
  | [d1, d2] => { results := [.lit (.bool true)], args := [d1, d2] }
  | _ => none }
def latticeCommonRow : OpenClaim := { program := "ytekfbafljilchaa", sum := "296e9fbe682cd5bd62fc09f15d71e17a7dd8f985fd58255fb7e0f065d901ba00", func := "pennant/pennantlaw13.LatticeCommon", spec := "latticeCommon", unfollowed := true, recurses := true, apart := false }
def LatticeCommonSaid : Prop := latticeCommonRow.holds Try.pinned (OpenSpec.ofChange latticeCommonSpec)

/-- ITS FALSE NEIGHBOUR: 'it returns false'. Refute it at one input. -/
def latticeCommonWrong : ChangeSpec := { name := "latticeCommon", fn := fun _ => fun
  | [d1, d2] => { results := [.lit (.bool false)], args := [d1, d2] }
  | _ => none }
def LatticeCommonWrongFalsely : Prop := latticeCommonRow.holds Try.pinned (OpenSpec.ofChange latticeCommonWrong)

/-- 'pennantlaw13.LatticeCopies': WHATEVER THE INPUT: true; the input reads as it did. -/
def latticeCopiesSpec : ChangeSpec := { name := "latticeCopies", fn := fun _ => fun
  | [d] => { results := [.lit (.bool true)], args := [d] }
  | _ => none }
def latticeCopiesRow : OpenClaim := { program := "ytekfbafljilchaa", sum := "296e9fbe682cd5bd62fc09f15d71e17a7dd8f985fd58255fb7e0f065d901ba00", func := "pennant/pennantlaw13.LatticeCopies", spec := "latticeCopies", unfollowed := true, recurses := true, apart := false }
def LatticeCopiesSaid : Prop := latticeCopiesRow.holds Try.pinned (OpenSpec.ofChange latticeCopiesSpec)

/-- ITS FALSE NEIGHBOUR: 'it returns false'. Refute it at one input. -/
def latticeCopiesWrong : ChangeSpec := { name := "latticeCopies", fn := fun _ => fun
  | [d] => { results := [.lit (.bool false)], args := [d] }
  | _ => none }
def LatticeCopiesWrongFalsely : Prop := latticeCopiesRow.holds Try.pinned (OpenSpec.ofChange latticeCopiesWrong)

/-- 'pennantlaw15.ChooseMatches': WHATEVER THE INPUT: true; the input reads as it did. -/
def chooseMatchesSpec : ChangeSpec := { name := "chooseMatches", fn := fun _ => fun
  | [d1, d2] => { results := [.lit (.bool true)], args := [d1, d2] }
  | _ => none }
def chooseMatchesRow : OpenClaim := { program := "ytekfbafljilchaa", sum := "296e9fbe682cd5bd62fc09f15d71e17a7dd8f985fd58255fb7e0f065d901ba00", func := "pennant/pennantlaw15.ChooseMatches", spec := "chooseMatches", unfollowed := true, recurses := true, apart := false }
def ChooseMatchesSaid : Prop := chooseMatchesRow.holds Try.pinned (OpenSpec.ofChange chooseMatchesSpec)

/-- ITS FALSE NEIGHBOUR: 'it returns false'. Refute it at one input. -/
def chooseMatchesWrong : ChangeSpec := { name := "chooseMatches", fn := fun _ => fun
  | [d1, d2] => { results := [.lit (.bool false)], args := [d1, d2] }
  | _ => none }
def ChooseMatchesWrongFalsely : Prop := chooseMatchesRow.holds Try.pinned (OpenSpec.ofChange chooseMatchesWrong)

/-- 'pennantlaw15.ChoosePeace': WHATEVER THE INPUT: true; the input reads as it did. -/
def choosePeaceSpec : ChangeSpec := { name := "choosePeace", fn := fun _ => fun
  | [d1, d2] => { results := [.lit (.bool true)], args := [d1, d2] }
  | _ => none }
def choosePeaceRow : OpenClaim := { program := "ytekfbafljilchaa", sum := "296e9fbe682cd5bd62fc09f15d71e17a7dd8f985fd58255fb7e0f065d901ba00", func := "pennant/pennantlaw15.ChoosePeace", spec := "choosePeace", unfollowed := true, recurses := true, apart := false }
def ChoosePeaceSaid : Prop := choosePeaceRow.holds Try.pinned (OpenSpec.ofChange choosePeaceSpec)

/-- ITS FALSE NEIGHBOUR: 'it returns false'. Refute it at one input. -/
def choosePeaceWrong : ChangeSpec := { name := "choosePeace", fn := fun _ => fun
  | [d1, d2] => { results := [.lit (.bool false)], args := [d1, d2] }
  | _ => none }
def ChoosePeaceWrongFalsely : Prop := choosePeaceRow.holds Try.pinned (OpenSpec.ofChange choosePeaceWrong)

/-- 'pennantlaw15.ChooseOne': WHATEVER THE INPUT: true; the input reads as it did. -/
def chooseOneSpec : ChangeSpec := { name := "chooseOne", fn := fun _ => fun
  | [d1, d2, d3] => { results := [.lit (.bool true)], args := [d1, d2, d3] }
  | _ => none }
def chooseOneRow : OpenClaim := { program := "ytekfbafljilchaa", sum := "296e9fbe682cd5bd62fc09f15d71e17a7dd8f985fd58255fb7e0f065d901ba00", func := "pennant/pennantlaw15.ChooseOne", spec := "chooseOne", unfollowed := true, recurses := true, apart := false }
def ChooseOneSaid : Prop := chooseOneRow.holds Try.pinned (OpenSpec.ofChange chooseOneSpec)

/-- ITS FALSE NEIGHBOUR: 'it returns false'. Refute it at one input. -/
def chooseOneWrong : ChangeSpec := { name := "chooseOne", fn := fun _ => fun
  | [d1, d2, d3] => { results := [.lit (.bool false)], args := [d1, d2, d3] }
  | _ => none }
def ChooseOneWrongFalsely : Prop := chooseOneRow.holds Try.pinned (OpenSpec.ofChange chooseOneWrong)

/- THE SECOND FORM. 'bulk': how many values and letters a reading holds, each counted each time it is reached (what is shared counts as often as it is met; a slice's spare places count too). A statement '..UptoSaid' is the law's where the arguments, and the package variables that the reading takes, are together of bulk at most 1048576: NARROWER than '..Said'. Prove '..Said' where nothing that the law and all that it calls make is longer than what came in: it says more and counts as full. Else prove '..UptoSaid'. A law counts once. -/
mutual
def uptoBulk {H : Type} : DataW H → Nat
  | .lit (.string bytes) => bytes.length + 1
  | .lit _ => 1
  | .nil => 1
  | .ptr d => uptoBulk d + 1
  | .slice elems spare => uptoBulkAll elems + uptoBulkAll spare + 1
  | .agg parts => uptoBulkAll parts + 1
  | .iface _ d => uptoBulk d + 1
  | .map entries => uptoBulkEntries entries + 1
  | .held _ => 1
def uptoBulkAll {H : Type} : List (DataW H) → Nat
  | [] => 0
  | d :: r => uptoBulk d + uptoBulkAll r
def uptoBulkEntries {H : Type} : List (Lit × DataW H) → Nat
  | [] => 0
  | x :: r => uptoBulkEntry x + uptoBulkEntries r
def uptoBulkEntry {H : Type} : Lit × DataW H → Nat
  | (.string bytes, d) => bytes.length + uptoBulk d + 1
  | (_, d) => uptoBulk d + 1
 end
def uptoSmall : (H : Type) → List (DataW H) → Bool := fun _ ds => decide (uptoBulkAll ds ≤ 1048576)
def OpenSpec.upto (s : _root_.Go.ChangeSpec) : _root_.Go.OpenSpec := { _root_.Go.OpenSpec.ofChange s with cond := some uptoSmall }

/-- 'pennantlaw15.ChooseFits', WHERE WHAT IT READS IS OF BULK AT MOST 1048576: true; the input reads as it did. -/
def chooseFitsUptoRow : OpenClaim := { program := "ytekfbafljilchaa", sum := "296e9fbe682cd5bd62fc09f15d71e17a7dd8f985fd58255fb7e0f065d901ba00", func := "pennant/pennantlaw15.ChooseFits", spec := "chooseFits", unfollowed := true, recurses := true, apart := false, narrowed := true }
def ChooseFitsUptoSaid : Prop := chooseFitsUptoRow.holds Try.pinned (OpenSpec.upto chooseFitsSpec)

/-- 'pennantlaw14.SetsNothing', WHERE WHAT IT READS IS OF BULK AT MOST 1048576: true; the input reads as it did. -/
def setsNothingUptoRow : OpenClaim := { program := "ytekfbafljilchaa", sum := "296e9fbe682cd5bd62fc09f15d71e17a7dd8f985fd58255fb7e0f065d901ba00", func := "pennant/pennantlaw14.SetsNothing", spec := "setsNothing", unfollowed := true, recurses := true, apart := false, narrowed := true }
def SetsNothingUptoSaid : Prop := setsNothingUptoRow.holds Try.pinned (OpenSpec.upto setsNothingSpec)

/-- 'pennantlaw13.LatticeSays', WHERE WHAT IT READS IS OF BULK AT MOST 1048576: true; the input reads as it did. -/
def latticeSaysUptoRow : OpenClaim := { program := "ytekfbafljilchaa", sum := "296e9fbe682cd5bd62fc09f15d71e17a7dd8f985fd58255fb7e0f065d901ba00", func := "pennant/pennantlaw13.LatticeSays", spec := "latticeSays", unfollowed := true, recurses := true, apart := false, narrowed := true }
def LatticeSaysUptoSaid : Prop := latticeSaysUptoRow.holds Try.pinned (OpenSpec.upto latticeSaysSpec)

/-- 'pennantlaw13.LatticeLegal', WHERE WHAT IT READS IS OF BULK AT MOST 1048576: true; the input reads as it did. -/
def latticeLegalUptoRow : OpenClaim := { program := "ytekfbafljilchaa", sum := "296e9fbe682cd5bd62fc09f15d71e17a7dd8f985fd58255fb7e0f065d901ba00", func := "pennant/pennantlaw13.LatticeLegal", spec := "latticeLegal", unfollowed := true, recurses := true, apart := false, narrowed := true }
def LatticeLegalUptoSaid : Prop := latticeLegalUptoRow.holds Try.pinned (OpenSpec.upto latticeLegalSpec)

/-- 'pennantlaw13.LatticeCommon', WHERE WHAT IT READS IS OF BULK AT MOST 1048576: true; the input reads as it did. -/
def latticeCommonUptoRow : OpenClaim := { program := "ytekfbafljilchaa", sum := "296e9fbe682cd5bd62fc09f15d71e17a7dd8f985fd58255fb7e0f065d901ba00", func := "pennant/pennantlaw13.LatticeCommon", spec := "latticeCommon", unfollowed := true, recurses := true, apart := false, narrowed := true }
def LatticeCommonUptoSaid : Prop := latticeCommonUptoRow.holds Try.pinned (OpenSpec.upto latticeCommonSpec)

/-- 'pennantlaw13.LatticeCopies', WHERE WHAT IT READS IS OF BULK AT MOST 1048576: true; the input reads as it did. -/
def latticeCopiesUptoRow : OpenClaim := { program := "ytekfbafljilchaa", sum := "296e9fbe682cd5bd62fc09f15d71e17a7dd8f985fd58255fb7e0f065d901ba00", func := "pennant/pennantlaw13.LatticeCopies", spec := "latticeCopies", unfollowed := true, recurses := true, apart := false, narrowed := true }
def LatticeCopiesUptoSaid : Prop := latticeCopiesUptoRow.holds Try.pinned (OpenSpec.upto latticeCopiesSpec)

/-- 'pennantlaw15.ChooseMatches', WHERE WHAT IT READS IS OF BULK AT MOST 1048576: true; the input reads as it did. -/
def chooseMatchesUptoRow : OpenClaim := { program := "ytekfbafljilchaa", sum := "296e9fbe682cd5bd62fc09f15d71e17a7dd8f985fd58255fb7e0f065d901ba00", func := "pennant/pennantlaw15.ChooseMatches", spec := "chooseMatches", unfollowed := true, recurses := true, apart := false, narrowed := true }
def ChooseMatchesUptoSaid : Prop := chooseMatchesUptoRow.holds Try.pinned (OpenSpec.upto chooseMatchesSpec)

/-- 'pennantlaw15.ChoosePeace', WHERE WHAT IT READS IS OF BULK AT MOST 1048576: true; the input reads as it did. -/
def choosePeaceUptoRow : OpenClaim := { program := "ytekfbafljilchaa", sum := "296e9fbe682cd5bd62fc09f15d71e17a7dd8f985fd58255fb7e0f065d901ba00", func := "pennant/pennantlaw15.ChoosePeace", spec := "choosePeace", unfollowed := true, recurses := true, apart := false, narrowed := true }
def ChoosePeaceUptoSaid : Prop := choosePeaceUptoRow.holds Try.pinned (OpenSpec.upto choosePeaceSpec)

/-- 'pennantlaw15.ChooseOne', WHERE WHAT IT READS IS OF BULK AT MOST 1048576: true; the input reads as it did. -/
def chooseOneUptoRow : OpenClaim := { program := "ytekfbafljilchaa", sum := "296e9fbe682cd5bd62fc09f15d71e17a7dd8f985fd58255fb7e0f065d901ba00", func := "pennant/pennantlaw15.ChooseOne", spec := "chooseOne", unfollowed := true, recurses := true, apart := false, narrowed := true }
def ChooseOneUptoSaid : Prop := chooseOneUptoRow.holds Try.pinned (OpenSpec.upto chooseOneSpec)

end Rows
end Go.Proofs.Ytekfbafljilchaa
