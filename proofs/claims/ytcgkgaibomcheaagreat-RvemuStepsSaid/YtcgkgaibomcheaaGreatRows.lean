/-
  No cell of these rows narrows 'for every input' (looked for: loops, veiled, ifaces, maps, wideKeys, modest, calm, conditions, laid).
  DERIVED. THE GIVEN ROWS OF THIS SEAT. 7 by the template 'for every input the law returns true; each argument reads behind the call as it read before'; 0 by the template 'total and deterministic' (their statements: YtcgkgaibomcheaaGreatTotals.lean).
  GIVEN WITH THE SEED: the statements are not yours to turn. If you find one false, say at which input.
  Laid BY PROGRAM, IN A SANDBOX (cutbox-rows.mjs): the forced cells as the released guide's own fill.sh prints them over the translation 9f6fcd25703007dd… (all of the seat's roots in one cut). By AI agents, Wed Nov 11 2026. No macro, syntax, notation, axiom, sorry.
-/
import Derived.Test.YtcgkgaibomcheaaGreatChecked
import GoSem.Claim
import GoSem.ClaimJoined
import GoSem.ClaimMapViews
import Derived.JoinedTies
import Derived.KernelRfl
namespace Go.Proofs.YtcgkgaibomcheaaGreat
/- THE CELL 'sum', in the pinned program and in every row, IS THE sha256 OF THE DUMP (.gsa) THAT YtcgkgaibomcheaaGreatProg.lean LOADS. Nothing in Lean hashes anything: it is a label: what it is worth is what the hold of that sum in a sandbox is worth. -/
noncomputable def Tryz.pinned : Pinned := { name := "ytcgkgaibomcheaagreat", sum := "9f6fcd25703007dd15ad7e0ef434a293fbe4bee86e698b3adc4ccf23eef88bbe", checked := Tryz.checked }
namespace Rows
def none {H : Type} : Left H := { results := [], args := [] }

/-- 'ravelinlaw16.RvemuRuns': WHATEVER THE INPUT: true; the input reads as it did. -/
def rvemuRunsSpec : ChangeSpec := { name := "rvemuRuns", fn := fun _ => fun
  | [d] => { results := [.lit (.bool true)], args := [d] }
  | _ => none }
def rvemuRunsRow : OpenClaim := { program := "ytcgkgaibomcheaagreat", sum := "9f6fcd25703007dd15ad7e0ef434a293fbe4bee86e698b3adc4ccf23eef88bbe", func := "ravelin/ravelinlaw16.RvemuRuns", spec := "rvemuRuns", unfollowed := true, recurses := true, apart := false }
def RvemuRunsSaid : Prop := rvemuRunsRow.holds Tryz.pinned (OpenSpec.ofChange rvemuRunsSpec)

/-- ITS FALSE NEIGHBOUR: 'it returns false'. Refute it at one input. -/
def rvemuRunsWrong : ChangeSpec := { name := "rvemuRuns", fn := fun _ => fun
  | [d] => { results := [.lit (.bool false)], args := [d] }
  | _ => none }
def RvemuRunsWrongFalsely : Prop := rvemuRunsRow.holds Tryz.pinned (OpenSpec.ofChange rvemuRunsWrong)

/-- 'ravelinlaw16.RvemuCode': WHATEVER THE INPUT: true; the input reads as it did. -/
def rvemuCodeSpec : ChangeSpec := { name := "rvemuCode", fn := fun _ => fun
  | [d1, d2] => { results := [.lit (.bool true)], args := [d1, d2] }
  | _ => none }
def rvemuCodeRow : OpenClaim := { program := "ytcgkgaibomcheaagreat", sum := "9f6fcd25703007dd15ad7e0ef434a293fbe4bee86e698b3adc4ccf23eef88bbe", func := "ravelin/ravelinlaw16.RvemuCode", spec := "rvemuCode", unfollowed := true, recurses := true, apart := false }
def RvemuCodeSaid : Prop := rvemuCodeRow.holds Tryz.pinned (OpenSpec.ofChange rvemuCodeSpec)

/-- ITS FALSE NEIGHBOUR: 'it returns false'. Refute it at one input. -/
def rvemuCodeWrong : ChangeSpec := { name := "rvemuCode", fn := fun _ => fun
  | [d1, d2] => { results := [.lit (.bool false)], args := [d1, d2] }
  | _ => none }
def RvemuCodeWrongFalsely : Prop := rvemuCodeRow.holds Tryz.pinned (OpenSpec.ofChange rvemuCodeWrong)

/-- 'ravelinlaw16.RvemuSteps': WHATEVER THE INPUT: true; the input reads as it did. -/
def rvemuStepsSpec : ChangeSpec := { name := "rvemuSteps", fn := fun _ => fun
  | [d1, d2] => { results := [.lit (.bool true)], args := [d1, d2] }
  | _ => none }
def rvemuStepsRow : OpenClaim := { program := "ytcgkgaibomcheaagreat", sum := "9f6fcd25703007dd15ad7e0ef434a293fbe4bee86e698b3adc4ccf23eef88bbe", func := "ravelin/ravelinlaw16.RvemuSteps", spec := "rvemuSteps", unfollowed := true, recurses := true, apart := false }
def RvemuStepsSaid : Prop := rvemuStepsRow.holds Tryz.pinned (OpenSpec.ofChange rvemuStepsSpec)

/-- ITS FALSE NEIGHBOUR: 'it returns false'. Refute it at one input. -/
def rvemuStepsWrong : ChangeSpec := { name := "rvemuSteps", fn := fun _ => fun
  | [d1, d2] => { results := [.lit (.bool false)], args := [d1, d2] }
  | _ => none }
def RvemuStepsWrongFalsely : Prop := rvemuStepsRow.holds Tryz.pinned (OpenSpec.ofChange rvemuStepsWrong)

/-- 'ravelinlaw16.RvemuEnds': WHATEVER THE INPUT: true; the input reads as it did. -/
def rvemuEndsSpec : ChangeSpec := { name := "rvemuEnds", fn := fun _ => fun
  | [d] => { results := [.lit (.bool true)], args := [d] }
  | _ => none }
def rvemuEndsRow : OpenClaim := { program := "ytcgkgaibomcheaagreat", sum := "9f6fcd25703007dd15ad7e0ef434a293fbe4bee86e698b3adc4ccf23eef88bbe", func := "ravelin/ravelinlaw16.RvemuEnds", spec := "rvemuEnds", unfollowed := true, recurses := true, apart := false }
def RvemuEndsSaid : Prop := rvemuEndsRow.holds Tryz.pinned (OpenSpec.ofChange rvemuEndsSpec)

/-- ITS FALSE NEIGHBOUR: 'it returns false'. Refute it at one input. -/
def rvemuEndsWrong : ChangeSpec := { name := "rvemuEnds", fn := fun _ => fun
  | [d] => { results := [.lit (.bool false)], args := [d] }
  | _ => none }
def RvemuEndsWrongFalsely : Prop := rvemuEndsRow.holds Tryz.pinned (OpenSpec.ofChange rvemuEndsWrong)

/-- 'ravelinlaw16.RvemuQuiet': WHATEVER THE INPUT: true; the input reads as it did. -/
def rvemuQuietSpec : ChangeSpec := { name := "rvemuQuiet", fn := fun _ => fun
  | [d1, d2, d3] => { results := [.lit (.bool true)], args := [d1, d2, d3] }
  | _ => none }
def rvemuQuietRow : OpenClaim := { program := "ytcgkgaibomcheaagreat", sum := "9f6fcd25703007dd15ad7e0ef434a293fbe4bee86e698b3adc4ccf23eef88bbe", func := "ravelin/ravelinlaw16.RvemuQuiet", spec := "rvemuQuiet", unfollowed := true, recurses := true, apart := false }
def RvemuQuietSaid : Prop := rvemuQuietRow.holds Tryz.pinned (OpenSpec.ofChange rvemuQuietSpec)

/-- ITS FALSE NEIGHBOUR: 'it returns false'. Refute it at one input. -/
def rvemuQuietWrong : ChangeSpec := { name := "rvemuQuiet", fn := fun _ => fun
  | [d1, d2, d3] => { results := [.lit (.bool false)], args := [d1, d2, d3] }
  | _ => none }
def RvemuQuietWrongFalsely : Prop := rvemuQuietRow.holds Tryz.pinned (OpenSpec.ofChange rvemuQuietWrong)

/-- 'ravelinlaw16.RvemuAccess': WHATEVER THE INPUT: true; the input reads as it did. -/
def rvemuAccessSpec : ChangeSpec := { name := "rvemuAccess", fn := fun _ => fun
  | [d1, d2] => { results := [.lit (.bool true)], args := [d1, d2] }
  | _ => none }
def rvemuAccessRow : OpenClaim := { program := "ytcgkgaibomcheaagreat", sum := "9f6fcd25703007dd15ad7e0ef434a293fbe4bee86e698b3adc4ccf23eef88bbe", func := "ravelin/ravelinlaw16.RvemuAccess", spec := "rvemuAccess", unfollowed := true, recurses := true, apart := false }
def RvemuAccessSaid : Prop := rvemuAccessRow.holds Tryz.pinned (OpenSpec.ofChange rvemuAccessSpec)

/-- ITS FALSE NEIGHBOUR: 'it returns false'. Refute it at one input. -/
def rvemuAccessWrong : ChangeSpec := { name := "rvemuAccess", fn := fun _ => fun
  | [d1, d2] => { results := [.lit (.bool false)], args := [d1, d2] }
  | _ => none }
def RvemuAccessWrongFalsely : Prop := rvemuAccessRow.holds Tryz.pinned (OpenSpec.ofChange rvemuAccessWrong)

/-- 'ravelinlaw16.RvemuMore': WHATEVER THE INPUT: true; the input reads as it did. -/
def rvemuMoreSpec : ChangeSpec := { name := "rvemuMore", fn := fun _ => fun
  | [d1, d2, d3] => { results := [.lit (.bool true)], args := [d1, d2, d3] }
  | _ => none }
def rvemuMoreRow : OpenClaim := { program := "ytcgkgaibomcheaagreat", sum := "9f6fcd25703007dd15ad7e0ef434a293fbe4bee86e698b3adc4ccf23eef88bbe", func := "ravelin/ravelinlaw16.RvemuMore", spec := "rvemuMore", unfollowed := true, recurses := true, apart := false }
def RvemuMoreSaid : Prop := rvemuMoreRow.holds Tryz.pinned (OpenSpec.ofChange rvemuMoreSpec)

/-- ITS FALSE NEIGHBOUR: 'it returns false'. Refute it at one input. -/
def rvemuMoreWrong : ChangeSpec := { name := "rvemuMore", fn := fun _ => fun
  | [d1, d2, d3] => { results := [.lit (.bool false)], args := [d1, d2, d3] }
  | _ => none }
def RvemuMoreWrongFalsely : Prop := rvemuMoreRow.holds Tryz.pinned (OpenSpec.ofChange rvemuMoreWrong)

/- THE SECOND FORM. 'bulk': how many values and letters a reading holds, each counted each time it is reached (what is shared counts as often as it is met; a slice's spare places count too). A statement '..UptoSaid' is the law's where the arguments, and the package variables that the reading takes, are together of bulk at most 1048576: NARROWER than '..Said'. Prove '..Said' where nothing that the law and all that it calls make is longer than what came in: it says more and counts as full. Else prove '..UptoSaid'. A law counts once. -/
mutual
def uptoBulk {H : Type} : DataW H → Nat
  | .lit (.string bytes) => bytes.length + 1
  | .lit _ => 1
  | .nil => 1
  | .ptr d => uptoBulk d + 1
  | .slice elems spare => uptoBulkAll elems + uptoBulkAll spare + 1
  | .agg parts => uptoBulkAll parts + 1
  | .iface _ d => uptoBulk d + 1
  | .map entries => uptoBulkEntries entries + 1
  | .held _ => 1
def uptoBulkAll {H : Type} : List (DataW H) → Nat
  | [] => 0
  | d :: r => uptoBulk d + uptoBulkAll r
def uptoBulkEntries {H : Type} : List (Lit × DataW H) → Nat
  | [] => 0
  | x :: r => uptoBulkEntry x + uptoBulkEntries r
def uptoBulkEntry {H : Type} : Lit × DataW H → Nat
  | (.string bytes, d) => bytes.length + uptoBulk d + 1
  | (_, d) => uptoBulk d + 1
 end
def uptoSmall : (H : Type) → List (DataW H) → Bool := fun _ ds => decide (uptoBulkAll ds ≤ 1048576)
def OpenSpec.upto (s : _root_.Go.ChangeSpec) : _root_.Go.OpenSpec := { _root_.Go.OpenSpec.ofChange s with cond := some uptoSmall }

/-- 'ravelinlaw16.RvemuRuns', WHERE WHAT IT READS IS OF BULK AT MOST 1048576: true; the input reads as it did. -/
def rvemuRunsUptoRow : OpenClaim := { program := "ytcgkgaibomcheaagreat", sum := "9f6fcd25703007dd15ad7e0ef434a293fbe4bee86e698b3adc4ccf23eef88bbe", func := "ravelin/ravelinlaw16.RvemuRuns", spec := "rvemuRuns", unfollowed := true, recurses := true, apart := false, narrowed := true }
def RvemuRunsUptoSaid : Prop := rvemuRunsUptoRow.holds Tryz.pinned (OpenSpec.upto rvemuRunsSpec)

/-- 'ravelinlaw16.RvemuCode', WHERE WHAT IT READS IS OF BULK AT MOST 1048576: true; the input reads as it did. -/
def rvemuCodeUptoRow : OpenClaim := { program := "ytcgkgaibomcheaagreat", sum := "9f6fcd25703007dd15ad7e0ef434a293fbe4bee86e698b3adc4ccf23eef88bbe", func := "ravelin/ravelinlaw16.RvemuCode", spec := "rvemuCode", unfollowed := true, recurses := true, apart := false, narrowed := true }
def RvemuCodeUptoSaid : Prop := rvemuCodeUptoRow.holds Tryz.pinned (OpenSpec.upto rvemuCodeSpec)

/-- 'ravelinlaw16.RvemuSteps', WHERE WHAT IT READS IS OF BULK AT MOST 1048576: true; the input reads as it did. -/
def rvemuStepsUptoRow : OpenClaim := { program := "ytcgkgaibomcheaagreat", sum := "9f6fcd25703007dd15ad7e0ef434a293fbe4bee86e698b3adc4ccf23eef88bbe", func := "ravelin/ravelinlaw16.RvemuSteps", spec := "rvemuSteps", unfollowed := true, recurses := true, apart := false, narrowed := true }
def RvemuStepsUptoSaid : Prop := rvemuStepsUptoRow.holds Tryz.pinned (OpenSpec.upto rvemuStepsSpec)

/-- 'ravelinlaw16.RvemuEnds', WHERE WHAT IT READS IS OF BULK AT MOST 1048576: true; the input reads as it did. -/
def rvemuEndsUptoRow : OpenClaim := { program := "ytcgkgaibomcheaagreat", sum := "9f6fcd25703007dd15ad7e0ef434a293fbe4bee86e698b3adc4ccf23eef88bbe", func := "ravelin/ravelinlaw16.RvemuEnds", spec := "rvemuEnds", unfollowed := true, recurses := true, apart := false, narrowed := true }
def RvemuEndsUptoSaid : Prop := rvemuEndsUptoRow.holds Tryz.pinned (OpenSpec.upto rvemuEndsSpec)

/-- 'ravelinlaw16.RvemuQuiet', WHERE WHAT IT READS IS OF BULK AT MOST 1048576: true; the input reads as it did. -/
def rvemuQuietUptoRow : OpenClaim := { program := "ytcgkgaibomcheaagreat", sum := "9f6fcd25703007dd15ad7e0ef434a293fbe4bee86e698b3adc4ccf23eef88bbe", func := "ravelin/ravelinlaw16.RvemuQuiet", spec := "rvemuQuiet", unfollowed := true, recurses := true, apart := false, narrowed := true }
def RvemuQuietUptoSaid : Prop := rvemuQuietUptoRow.holds Tryz.pinned (OpenSpec.upto rvemuQuietSpec)

/-- 'ravelinlaw16.RvemuAccess', WHERE WHAT IT READS IS OF BULK AT MOST 1048576: true; the input reads as it did. -/
def rvemuAccessUptoRow : OpenClaim := { program := "ytcgkgaibomcheaagreat", sum := "9f6fcd25703007dd15ad7e0ef434a293fbe4bee86e698b3adc4ccf23eef88bbe", func := "ravelin/ravelinlaw16.RvemuAccess", spec := "rvemuAccess", unfollowed := true, recurses := true, apart := false, narrowed := true }
def RvemuAccessUptoSaid : Prop := rvemuAccessUptoRow.holds Tryz.pinned (OpenSpec.upto rvemuAccessSpec)

/-- 'ravelinlaw16.RvemuMore', WHERE WHAT IT READS IS OF BULK AT MOST 1048576: true; the input reads as it did. -/
def rvemuMoreUptoRow : OpenClaim := { program := "ytcgkgaibomcheaagreat", sum := "9f6fcd25703007dd15ad7e0ef434a293fbe4bee86e698b3adc4ccf23eef88bbe", func := "ravelin/ravelinlaw16.RvemuMore", spec := "rvemuMore", unfollowed := true, recurses := true, apart := false, narrowed := true }
def RvemuMoreUptoSaid : Prop := rvemuMoreUptoRow.holds Tryz.pinned (OpenSpec.upto rvemuMoreSpec)

end Rows
end Go.Proofs.YtcgkgaibomcheaaGreat
