/-
  No cell of these rows narrows 'for every input' (looked for: loops, veiled, ifaces, maps, wideKeys, modest, calm, conditions, laid).
  DERIVED. THE GIVEN ROWS OF THIS SEAT. 7 by the template 'for every input the law returns true; each argument reads behind the call as it read before'; 0 by the template 'total and deterministic' (their statements: YtplplillpjnnnaaTotals.lean).
  GIVEN WITH THE SEED: the statements are not yours to turn. If you find one false, say at which input.
  Laid BY PROGRAM, IN A SANDBOX (cutbox-rows.mjs): the forced cells as the released guide's own fill.sh prints them over the translation e96e7a57a708b43a… (all of the seat's roots in one cut). By AI agents, Wed Nov 11 2026. No macro, syntax, notation, axiom, sorry.
-/
import Derived.Test.YtplplillpjnnnaaChecked
import GoSem.Claim
import GoSem.ClaimJoined
import GoSem.ClaimMapViews
import Derived.JoinedTies
import Derived.KernelRfl
namespace Go.Proofs.Ytplplillpjnnnaa
/- THE CELL 'sum', in the pinned program and in every row, IS THE sha256 OF THE DUMP (.gsa) THAT YtplplillpjnnnaaProg.lean LOADS. Nothing in Lean hashes anything: it is a label: what it is worth is what the hold of that sum in a sandbox is worth. -/
noncomputable def Try.pinned : Pinned := { name := "ytplplillpjnnnaa", sum := "e96e7a57a708b43a03143c65c0172b52506716931709a7e256f19c7c3c6b10ae", checked := Try.checked }
namespace Rows
def none {H : Type} : Left H := { results := [], args := [] }

/-- 'ravelinlaw02.SecdataApart': WHATEVER THE INPUT: true; the input reads as it did. -/
def secdataApartSpec : ChangeSpec := { name := "secdataApart", fn := fun _ => fun
  | [d1, d2] => { results := [.lit (.bool true)], args := [d1, d2] }
  | _ => none }
def secdataApartRow : OpenClaim := { program := "ytplplillpjnnnaa", sum := "e96e7a57a708b43a03143c65c0172b52506716931709a7e256f19c7c3c6b10ae", func := "ravelin/ravelinlaw02.SecdataApart", spec := "secdataApart", apart := false }
def SecdataApartSaid : Prop := secdataApartRow.holds Try.pinned (OpenSpec.ofChange secdataApartSpec)

/-- ITS FALSE NEIGHBOUR: 'it returns false'. Refute it at one input. -/
def secdataApartWrong : ChangeSpec := { name := "secdataApart", fn := fun _ => fun
  | [d1, d2] => { results := [.lit (.bool false)], args := [d1, d2] }
  | _ => none }
def SecdataApartWrongFalsely : Prop := secdataApartRow.holds Try.pinned (OpenSpec.ofChange secdataApartWrong)

/-- 'ravelinlaw02.SecdataCodes': WHATEVER THE INPUT: true; the input reads as it did. -/
def secdataCodesSpec : ChangeSpec := { name := "secdataCodes", fn := fun _ => fun
  | [d] => { results := [.lit (.bool true)], args := [d] }
  | _ => none }
def secdataCodesRow : OpenClaim := { program := "ytplplillpjnnnaa", sum := "e96e7a57a708b43a03143c65c0172b52506716931709a7e256f19c7c3c6b10ae", func := "ravelin/ravelinlaw02.SecdataCodes", spec := "secdataCodes", apart := false }
def SecdataCodesSaid : Prop := secdataCodesRow.holds Try.pinned (OpenSpec.ofChange secdataCodesSpec)

/-- ITS FALSE NEIGHBOUR: 'it returns false'. Refute it at one input. -/
def secdataCodesWrong : ChangeSpec := { name := "secdataCodes", fn := fun _ => fun
  | [d] => { results := [.lit (.bool false)], args := [d] }
  | _ => none }
def SecdataCodesWrongFalsely : Prop := secdataCodesRow.holds Try.pinned (OpenSpec.ofChange secdataCodesWrong)

/-- 'ravelinlaw02.SecdataActions': WHATEVER THE INPUT: true; the input reads as it did. -/
def secdataActionsSpec : ChangeSpec := { name := "secdataActions", fn := fun _ => fun
  | [d] => { results := [.lit (.bool true)], args := [d] }
  | _ => none }
def secdataActionsRow : OpenClaim := { program := "ytplplillpjnnnaa", sum := "e96e7a57a708b43a03143c65c0172b52506716931709a7e256f19c7c3c6b10ae", func := "ravelin/ravelinlaw02.SecdataActions", spec := "secdataActions", apart := false }
def SecdataActionsSaid : Prop := secdataActionsRow.holds Try.pinned (OpenSpec.ofChange secdataActionsSpec)

/-- ITS FALSE NEIGHBOUR: 'it returns false'. Refute it at one input. -/
def secdataActionsWrong : ChangeSpec := { name := "secdataActions", fn := fun _ => fun
  | [d] => { results := [.lit (.bool false)], args := [d] }
  | _ => none }
def SecdataActionsWrongFalsely : Prop := secdataActionsRow.holds Try.pinned (OpenSpec.ofChange secdataActionsWrong)

/-- 'ravelinlaw02.SecdataBytes': WHATEVER THE INPUT: true; the input reads as it did. -/
def secdataBytesSpec : ChangeSpec := { name := "secdataBytes", fn := fun _ => fun
  | [d] => { results := [.lit (.bool true)], args := [d] }
  | _ => none }
def secdataBytesRow : OpenClaim := { program := "ytplplillpjnnnaa", sum := "e96e7a57a708b43a03143c65c0172b52506716931709a7e256f19c7c3c6b10ae", func := "ravelin/ravelinlaw02.SecdataBytes", spec := "secdataBytes", unfollowed := true, recurses := true, apart := false }
def SecdataBytesSaid : Prop := secdataBytesRow.holds Try.pinned (OpenSpec.ofChange secdataBytesSpec)

/-- ITS FALSE NEIGHBOUR: 'it returns false'. Refute it at one input. -/
def secdataBytesWrong : ChangeSpec := { name := "secdataBytes", fn := fun _ => fun
  | [d] => { results := [.lit (.bool false)], args := [d] }
  | _ => none }
def SecdataBytesWrongFalsely : Prop := secdataBytesRow.holds Try.pinned (OpenSpec.ofChange secdataBytesWrong)

/-- 'ravelinlaw02.SecdataReads': WHATEVER THE INPUT: true; the input reads as it did. -/
def secdataReadsSpec : ChangeSpec := { name := "secdataReads", fn := fun _ => fun
  | [d] => { results := [.lit (.bool true)], args := [d] }
  | _ => none }
def secdataReadsRow : OpenClaim := { program := "ytplplillpjnnnaa", sum := "e96e7a57a708b43a03143c65c0172b52506716931709a7e256f19c7c3c6b10ae", func := "ravelin/ravelinlaw02.SecdataReads", spec := "secdataReads", unfollowed := true, recurses := true, apart := false }
def SecdataReadsSaid : Prop := secdataReadsRow.holds Try.pinned (OpenSpec.ofChange secdataReadsSpec)

/-- ITS FALSE NEIGHBOUR: 'it returns false'. Refute it at one input. -/
def secdataReadsWrong : ChangeSpec := { name := "secdataReads", fn := fun _ => fun
  | [d] => { results := [.lit (.bool false)], args := [d] }
  | _ => none }
def SecdataReadsWrongFalsely : Prop := secdataReadsRow.holds Try.pinned (OpenSpec.ofChange secdataReadsWrong)

/-- 'ravelinlaw02.SecdataWords': WHATEVER THE INPUT: true; the input reads as it did. -/
def secdataWordsSpec : ChangeSpec := { name := "secdataWords", fn := fun _ => fun
  | [d1, d2, d3] => { results := [.lit (.bool true)], args := [d1, d2, d3] }
  | _ => none }
def secdataWordsRow : OpenClaim := { program := "ytplplillpjnnnaa", sum := "e96e7a57a708b43a03143c65c0172b52506716931709a7e256f19c7c3c6b10ae", func := "ravelin/ravelinlaw02.SecdataWords", spec := "secdataWords", apart := false }
def SecdataWordsSaid : Prop := secdataWordsRow.holds Try.pinned (OpenSpec.ofChange secdataWordsSpec)

/-- ITS FALSE NEIGHBOUR: 'it returns false'. Refute it at one input. -/
def secdataWordsWrong : ChangeSpec := { name := "secdataWords", fn := fun _ => fun
  | [d1, d2, d3] => { results := [.lit (.bool false)], args := [d1, d2, d3] }
  | _ => none }
def SecdataWordsWrongFalsely : Prop := secdataWordsRow.holds Try.pinned (OpenSpec.ofChange secdataWordsWrong)

/-- 'ravelinlaw02.SecdataOne': WHATEVER THE INPUT: true; the input reads as it did. -/
def secdataOneSpec : ChangeSpec := { name := "secdataOne", fn := fun _ => fun
  | [d1, d2, d3] => { results := [.lit (.bool true)], args := [d1, d2, d3] }
  | _ => none }
def secdataOneRow : OpenClaim := { program := "ytplplillpjnnnaa", sum := "e96e7a57a708b43a03143c65c0172b52506716931709a7e256f19c7c3c6b10ae", func := "ravelin/ravelinlaw02.SecdataOne", spec := "secdataOne", apart := false }
def SecdataOneSaid : Prop := secdataOneRow.holds Try.pinned (OpenSpec.ofChange secdataOneSpec)

/-- ITS FALSE NEIGHBOUR: 'it returns false'. Refute it at one input. -/
def secdataOneWrong : ChangeSpec := { name := "secdataOne", fn := fun _ => fun
  | [d1, d2, d3] => { results := [.lit (.bool false)], args := [d1, d2, d3] }
  | _ => none }
def SecdataOneWrongFalsely : Prop := secdataOneRow.holds Try.pinned (OpenSpec.ofChange secdataOneWrong)

/- THE SECOND FORM. 'bulk': how many values and letters a reading holds, each counted each time it is reached (what is shared counts as often as it is met; a slice's spare places count too). A statement '..UptoSaid' is the law's where the arguments, and the package variables that the reading takes, are together of bulk at most 1048576: NARROWER than '..Said'. Prove '..Said' where nothing that the law and all that it calls make is longer than what came in: it says more and counts as full. Else prove '..UptoSaid'. A law counts once. -/
mutual
def uptoBulk {H : Type} : DataW H → Nat
  | .lit (.string bytes) => bytes.length + 1
  | .lit _ => 1
  | .nil => 1
  | .ptr d => uptoBulk d + 1
  | .slice elems spare => uptoBulkAll elems + uptoBulkAll spare + 1
  | .agg parts => uptoBulkAll parts + 1
  | .iface _ d => uptoBulk d + 1
  | .map entries => uptoBulkEntries entries + 1
  | .held _ => 1
def uptoBulkAll {H : Type} : List (DataW H) → Nat
  | [] => 0
  | d :: r => uptoBulk d + uptoBulkAll r
def uptoBulkEntries {H : Type} : List (Lit × DataW H) → Nat
  | [] => 0
  | x :: r => uptoBulkEntry x + uptoBulkEntries r
def uptoBulkEntry {H : Type} : Lit × DataW H → Nat
  | (.string bytes, d) => bytes.length + uptoBulk d + 1
  | (_, d) => uptoBulk d + 1
 end
def uptoSmall : (H : Type) → List (DataW H) → Bool := fun _ ds => decide (uptoBulkAll ds ≤ 1048576)
def OpenSpec.upto (s : _root_.Go.ChangeSpec) : _root_.Go.OpenSpec := { _root_.Go.OpenSpec.ofChange s with cond := some uptoSmall }

/-- 'ravelinlaw02.SecdataApart', WHERE WHAT IT READS IS OF BULK AT MOST 1048576: true; the input reads as it did. -/
def secdataApartUptoRow : OpenClaim := { program := "ytplplillpjnnnaa", sum := "e96e7a57a708b43a03143c65c0172b52506716931709a7e256f19c7c3c6b10ae", func := "ravelin/ravelinlaw02.SecdataApart", spec := "secdataApart", apart := false, narrowed := true }
def SecdataApartUptoSaid : Prop := secdataApartUptoRow.holds Try.pinned (OpenSpec.upto secdataApartSpec)

/-- 'ravelinlaw02.SecdataCodes', WHERE WHAT IT READS IS OF BULK AT MOST 1048576: true; the input reads as it did. -/
def secdataCodesUptoRow : OpenClaim := { program := "ytplplillpjnnnaa", sum := "e96e7a57a708b43a03143c65c0172b52506716931709a7e256f19c7c3c6b10ae", func := "ravelin/ravelinlaw02.SecdataCodes", spec := "secdataCodes", apart := false, narrowed := true }
def SecdataCodesUptoSaid : Prop := secdataCodesUptoRow.holds Try.pinned (OpenSpec.upto secdataCodesSpec)

/-- 'ravelinlaw02.SecdataActions', WHERE WHAT IT READS IS OF BULK AT MOST 1048576: true; the input reads as it did. -/
def secdataActionsUptoRow : OpenClaim := { program := "ytplplillpjnnnaa", sum := "e96e7a57a708b43a03143c65c0172b52506716931709a7e256f19c7c3c6b10ae", func := "ravelin/ravelinlaw02.SecdataActions", spec := "secdataActions", apart := false, narrowed := true }
def SecdataActionsUptoSaid : Prop := secdataActionsUptoRow.holds Try.pinned (OpenSpec.upto secdataActionsSpec)

/-- 'ravelinlaw02.SecdataBytes', WHERE WHAT IT READS IS OF BULK AT MOST 1048576: true; the input reads as it did. -/
def secdataBytesUptoRow : OpenClaim := { program := "ytplplillpjnnnaa", sum := "e96e7a57a708b43a03143c65c0172b52506716931709a7e256f19c7c3c6b10ae", func := "ravelin/ravelinlaw02.SecdataBytes", spec := "secdataBytes", unfollowed := true, recurses := true, apart := false, narrowed := true }
def SecdataBytesUptoSaid : Prop := secdataBytesUptoRow.holds Try.pinned (OpenSpec.upto secdataBytesSpec)

/-- 'ravelinlaw02.SecdataReads', WHERE WHAT IT READS IS OF BULK AT MOST 1048576: true; the input reads as it did. -/
def secdataReadsUptoRow : OpenClaim := { program := "ytplplillpjnnnaa", sum := "e96e7a57a708b43a03143c65c0172b52506716931709a7e256f19c7c3c6b10ae", func := "ravelin/ravelinlaw02.SecdataReads", spec := "secdataReads", unfollowed := true, recurses := true, apart := false, narrowed := true }
def SecdataReadsUptoSaid : Prop := secdataReadsUptoRow.holds Try.pinned (OpenSpec.upto secdataReadsSpec)

/-- 'ravelinlaw02.SecdataWords', WHERE WHAT IT READS IS OF BULK AT MOST 1048576: true; the input reads as it did. -/
def secdataWordsUptoRow : OpenClaim := { program := "ytplplillpjnnnaa", sum := "e96e7a57a708b43a03143c65c0172b52506716931709a7e256f19c7c3c6b10ae", func := "ravelin/ravelinlaw02.SecdataWords", spec := "secdataWords", apart := false, narrowed := true }
def SecdataWordsUptoSaid : Prop := secdataWordsUptoRow.holds Try.pinned (OpenSpec.upto secdataWordsSpec)

/-- 'ravelinlaw02.SecdataOne', WHERE WHAT IT READS IS OF BULK AT MOST 1048576: true; the input reads as it did. -/
def secdataOneUptoRow : OpenClaim := { program := "ytplplillpjnnnaa", sum := "e96e7a57a708b43a03143c65c0172b52506716931709a7e256f19c7c3c6b10ae", func := "ravelin/ravelinlaw02.SecdataOne", spec := "secdataOne", apart := false, narrowed := true }
def SecdataOneUptoSaid : Prop := secdataOneUptoRow.holds Try.pinned (OpenSpec.upto secdataOneSpec)

end Rows
end Go.Proofs.Ytplplillpjnnnaa
