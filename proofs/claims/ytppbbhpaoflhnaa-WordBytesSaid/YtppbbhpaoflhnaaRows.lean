/-
  No cell of these rows narrows 'for every input' (looked for: loops, veiled, ifaces, maps, wideKeys, modest, calm, conditions, laid).
  DERIVED. THE GIVEN ROWS OF THIS SEAT. 7 by the template 'for every input the law returns true; each argument reads behind the call as it read before'; 0 by the template 'total and deterministic' (their statements: YtppbbhpaoflhnaaTotals.lean).
  GIVEN WITH THE SEED: the statements are not yours to turn. If you find one false, say at which input.
  Laid BY PROGRAM, IN A SANDBOX (cutbox-rows.mjs): the forced cells as the released guide's own fill.sh prints them over the translation cb7c5f4d8807fa8c… (all of the seat's roots in one cut). By AI agents, Wed Nov 11 2026. No macro, syntax, notation, axiom, sorry.
-/
import Derived.Test.YtppbbhpaoflhnaaChecked
import GoSem.Claim
import GoSem.ClaimJoined
import GoSem.ClaimMapViews
import Derived.JoinedTies
import Derived.KernelRfl
namespace Go.Proofs.Ytppbbhpaoflhnaa
/- THE CELL 'sum', in the pinned program and in every row, IS THE sha256 OF THE DUMP (.gsa) THAT YtppbbhpaoflhnaaProg.lean LOADS. Nothing in Lean hashes anything: it is a label: what it is worth is what the hold of that sum in a sandbox is worth. -/
noncomputable def Try.pinned : Pinned := { name := "ytppbbhpaoflhnaa", sum := "cb7c5f4d8807fa8c1fec7b48e23fd16d9930060a48df810fe251692971b1f3c6", checked := Try.checked }
namespace Rows
def none {H : Type} : Left H := { results := [], args := [] }

/-- 'ravelinlaw01.WordFits': WHATEVER THE INPUT: true; the input reads as it did. -/
def wordFitsSpec : ChangeSpec := { name := "wordFits", fn := fun _ => fun
  | [d1, d2] => { results := [.lit (.bool true)], args := [d1, d2] }
  | _ => none }
def wordFitsRow : OpenClaim := { program := "ytppbbhpaoflhnaa", sum := "cb7c5f4d8807fa8c1fec7b48e23fd16d9930060a48df810fe251692971b1f3c6", func := "ravelin/ravelinlaw01.WordFits", spec := "wordFits", apart := false }
def WordFitsSaid : Prop := wordFitsRow.holds Try.pinned (OpenSpec.ofChange wordFitsSpec)

/-- ITS FALSE NEIGHBOUR: 'it returns false'. Refute it at one input. -/
def wordFitsWrong : ChangeSpec := { name := "wordFits", fn := fun _ => fun
  | [d1, d2] => { results := [.lit (.bool false)], args := [d1, d2] }
  | _ => none }
def WordFitsWrongFalsely : Prop := wordFitsRow.holds Try.pinned (OpenSpec.ofChange wordFitsWrong)

/-- 'ravelinlaw01.WordHalves': WHATEVER THE INPUT: true; the input reads as it did. -/
def wordHalvesSpec : ChangeSpec := { name := "wordHalves", fn := fun _ => fun
  | [d1, d2, d3] => { results := [.lit (.bool true)], args := [d1, d2, d3] }
  | _ => none }
def wordHalvesRow : OpenClaim := { program := "ytppbbhpaoflhnaa", sum := "cb7c5f4d8807fa8c1fec7b48e23fd16d9930060a48df810fe251692971b1f3c6", func := "ravelin/ravelinlaw01.WordHalves", spec := "wordHalves", apart := false }
def WordHalvesSaid : Prop := wordHalvesRow.holds Try.pinned (OpenSpec.ofChange wordHalvesSpec)

/-- ITS FALSE NEIGHBOUR: 'it returns false'. Refute it at one input. -/
def wordHalvesWrong : ChangeSpec := { name := "wordHalves", fn := fun _ => fun
  | [d1, d2, d3] => { results := [.lit (.bool false)], args := [d1, d2, d3] }
  | _ => none }
def WordHalvesWrongFalsely : Prop := wordHalvesRow.holds Try.pinned (OpenSpec.ofChange wordHalvesWrong)

/-- 'ravelinlaw01.WordCuts': WHATEVER THE INPUT: true; the input reads as it did. -/
def wordCutsSpec : ChangeSpec := { name := "wordCuts", fn := fun _ => fun
  | [d] => { results := [.lit (.bool true)], args := [d] }
  | _ => none }
def wordCutsRow : OpenClaim := { program := "ytppbbhpaoflhnaa", sum := "cb7c5f4d8807fa8c1fec7b48e23fd16d9930060a48df810fe251692971b1f3c6", func := "ravelin/ravelinlaw01.WordCuts", spec := "wordCuts", apart := false }
def WordCutsSaid : Prop := wordCutsRow.holds Try.pinned (OpenSpec.ofChange wordCutsSpec)

/-- ITS FALSE NEIGHBOUR: 'it returns false'. Refute it at one input. -/
def wordCutsWrong : ChangeSpec := { name := "wordCuts", fn := fun _ => fun
  | [d] => { results := [.lit (.bool false)], args := [d] }
  | _ => none }
def WordCutsWrongFalsely : Prop := wordCutsRow.holds Try.pinned (OpenSpec.ofChange wordCutsWrong)

/-- 'ravelinlaw01.WordBack': WHATEVER THE INPUT: true; the input reads as it did. -/
def wordBackSpec : ChangeSpec := { name := "wordBack", fn := fun _ => fun
  | [d] => { results := [.lit (.bool true)], args := [d] }
  | _ => none }
def wordBackRow : OpenClaim := { program := "ytppbbhpaoflhnaa", sum := "cb7c5f4d8807fa8c1fec7b48e23fd16d9930060a48df810fe251692971b1f3c6", func := "ravelin/ravelinlaw01.WordBack", spec := "wordBack", apart := false }
def WordBackSaid : Prop := wordBackRow.holds Try.pinned (OpenSpec.ofChange wordBackSpec)

/-- ITS FALSE NEIGHBOUR: 'it returns false'. Refute it at one input. -/
def wordBackWrong : ChangeSpec := { name := "wordBack", fn := fun _ => fun
  | [d] => { results := [.lit (.bool false)], args := [d] }
  | _ => none }
def WordBackWrongFalsely : Prop := wordBackRow.holds Try.pinned (OpenSpec.ofChange wordBackWrong)

/-- 'ravelinlaw01.WordApart': WHATEVER THE INPUT: true; the input reads as it did. -/
def wordApartSpec : ChangeSpec := { name := "wordApart", fn := fun _ => fun
  | [d1, d2] => { results := [.lit (.bool true)], args := [d1, d2] }
  | _ => none }
def wordApartRow : OpenClaim := { program := "ytppbbhpaoflhnaa", sum := "cb7c5f4d8807fa8c1fec7b48e23fd16d9930060a48df810fe251692971b1f3c6", func := "ravelin/ravelinlaw01.WordApart", spec := "wordApart", apart := false }
def WordApartSaid : Prop := wordApartRow.holds Try.pinned (OpenSpec.ofChange wordApartSpec)

/-- ITS FALSE NEIGHBOUR: 'it returns false'. Refute it at one input. -/
def wordApartWrong : ChangeSpec := { name := "wordApart", fn := fun _ => fun
  | [d1, d2] => { results := [.lit (.bool false)], args := [d1, d2] }
  | _ => none }
def WordApartWrongFalsely : Prop := wordApartRow.holds Try.pinned (OpenSpec.ofChange wordApartWrong)

/-- 'ravelinlaw01.WordBytes': WHATEVER THE INPUT: true; the input reads as it did. -/
def wordBytesSpec : ChangeSpec := { name := "wordBytes", fn := fun _ => fun
  | [d1, d2] => { results := [.lit (.bool true)], args := [d1, d2] }
  | _ => none }
def wordBytesRow : OpenClaim := { program := "ytppbbhpaoflhnaa", sum := "cb7c5f4d8807fa8c1fec7b48e23fd16d9930060a48df810fe251692971b1f3c6", func := "ravelin/ravelinlaw01.WordBytes", spec := "wordBytes", apart := false }
def WordBytesSaid : Prop := wordBytesRow.holds Try.pinned (OpenSpec.ofChange wordBytesSpec)

/-- ITS FALSE NEIGHBOUR: 'it returns false'. Refute it at one input. -/
def wordBytesWrong : ChangeSpec := { name := "wordBytes", fn := fun _ => fun
  | [d1, d2] => { results := [.lit (.bool false)], args := [d1, d2] }
  | _ => none }
def WordBytesWrongFalsely : Prop := wordBytesRow.holds Try.pinned (OpenSpec.ofChange wordBytesWrong)

/-- 'ravelinlaw01.WordStored': WHATEVER THE INPUT: true; the input reads as it did. -/
def wordStoredSpec : ChangeSpec := { name := "wordStored", fn := fun _ => fun
  | [d1, d2] => { results := [.lit (.bool true)], args := [d1, d2] }
  | _ => none }
def wordStoredRow : OpenClaim := { program := "ytppbbhpaoflhnaa", sum := "cb7c5f4d8807fa8c1fec7b48e23fd16d9930060a48df810fe251692971b1f3c6", func := "ravelin/ravelinlaw01.WordStored", spec := "wordStored", apart := false }
def WordStoredSaid : Prop := wordStoredRow.holds Try.pinned (OpenSpec.ofChange wordStoredSpec)

/-- ITS FALSE NEIGHBOUR: 'it returns false'. Refute it at one input. -/
def wordStoredWrong : ChangeSpec := { name := "wordStored", fn := fun _ => fun
  | [d1, d2] => { results := [.lit (.bool false)], args := [d1, d2] }
  | _ => none }
def WordStoredWrongFalsely : Prop := wordStoredRow.holds Try.pinned (OpenSpec.ofChange wordStoredWrong)

/- THE SECOND FORM. 'bulk': how many values and letters a reading holds, each counted each time it is reached (what is shared counts as often as it is met; a slice's spare places count too). A statement '..UptoSaid' is the law's where the arguments, and the package variables that the reading takes, are together of bulk at most 1048576: NARROWER than '..Said'. Prove '..Said' where nothing that the law and all that it calls make is longer than what came in: it says more and counts as full. Else prove '..UptoSaid'. A law counts once. -/
mutual
def uptoBulk {H : Type} : DataW H → Nat
  | .lit (.string bytes) => bytes.length + 1
  | .lit _ => 1
  | .nil => 1
  | .ptr d => uptoBulk d + 1
  | .slice elems spare => uptoBulkAll elems + uptoBulkAll spare + 1
  | .agg parts => uptoBulkAll parts + 1
  | .iface _ d => uptoBulk d + 1
  | .map entries => uptoBulkEntries entries + 1
  | .held _ => 1
def uptoBulkAll {H : Type} : List (DataW H) → Nat
  | [] => 0
  | d :: r => uptoBulk d + uptoBulkAll r
def uptoBulkEntries {H : Type} : List (Lit × DataW H) → Nat
  | [] => 0
  | x :: r => uptoBulkEntry x + uptoBulkEntries r
def uptoBulkEntry {H : Type} : Lit × DataW H → Nat
  | (.string bytes, d) => bytes.length + uptoBulk d + 1
  | (_, d) => uptoBulk d + 1
 end
def uptoSmall : (H : Type) → List (DataW H) → Bool := fun _ ds => decide (uptoBulkAll ds ≤ 1048576)
def OpenSpec.upto (s : _root_.Go.ChangeSpec) : _root_.Go.OpenSpec := { _root_.Go.OpenSpec.ofChange s with cond := some uptoSmall }

/-- 'ravelinlaw01.WordFits', WHERE WHAT IT READS IS OF BULK AT MOST 1048576: true; the input reads as it did. -/
def wordFitsUptoRow : OpenClaim := { program := "ytppbbhpaoflhnaa", sum := "cb7c5f4d8807fa8c1fec7b48e23fd16d9930060a48df810fe251692971b1f3c6", func := "ravelin/ravelinlaw01.WordFits", spec := "wordFits", apart := false, narrowed := true }
def WordFitsUptoSaid : Prop := wordFitsUptoRow.holds Try.pinned (OpenSpec.upto wordFitsSpec)

/-- 'ravelinlaw01.WordHalves', WHERE WHAT IT READS IS OF BULK AT MOST 1048576: true; the input reads as it did. -/
def wordHalvesUptoRow : OpenClaim := { program := "ytppbbhpaoflhnaa", sum := "cb7c5f4d8807fa8c1fec7b48e23fd16d9930060a48df810fe251692971b1f3c6", func := "ravelin/ravelinlaw01.WordHalves", spec := "wordHalves", apart := false, narrowed := true }
def WordHalvesUptoSaid : Prop := wordHalvesUptoRow.holds Try.pinned (OpenSpec.upto wordHalvesSpec)

/-- 'ravelinlaw01.WordCuts', WHERE WHAT IT READS IS OF BULK AT MOST 1048576: true; the input reads as it did. -/
def wordCutsUptoRow : OpenClaim := { program := "ytppbbhpaoflhnaa", sum := "cb7c5f4d8807fa8c1fec7b48e23fd16d9930060a48df810fe251692971b1f3c6", func := "ravelin/ravelinlaw01.WordCuts", spec := "wordCuts", apart := false, narrowed := true }
def WordCutsUptoSaid : Prop := wordCutsUptoRow.holds Try.pinned (OpenSpec.upto wordCutsSpec)

/-- 'ravelinlaw01.WordBack', WHERE WHAT IT READS IS OF BULK AT MOST 1048576: true; the input reads as it did. -/
def wordBackUptoRow : OpenClaim := { program := "ytppbbhpaoflhnaa", sum := "cb7c5f4d8807fa8c1fec7b48e23fd16d9930060a48df810fe251692971b1f3c6", func := "ravelin/ravelinlaw01.WordBack", spec := "wordBack", apart := false, narrowed := true }
def WordBackUptoSaid : Prop := wordBackUptoRow.holds Try.pinned (OpenSpec.upto wordBackSpec)

/-- 'ravelinlaw01.WordApart', WHERE WHAT IT READS IS OF BULK AT MOST 1048576: true; the input reads as it did. -/
def wordApartUptoRow : OpenClaim := { program := "ytppbbhpaoflhnaa", sum := "cb7c5f4d8807fa8c1fec7b48e23fd16d9930060a48df810fe251692971b1f3c6", func := "ravelin/ravelinlaw01.WordApart", spec := "wordApart", apart := false, narrowed := true }
def WordApartUptoSaid : Prop := wordApartUptoRow.holds Try.pinned (OpenSpec.upto wordApartSpec)

/-- 'ravelinlaw01.WordBytes', WHERE WHAT IT READS IS OF BULK AT MOST 1048576: true; the input reads as it did. -/
def wordBytesUptoRow : OpenClaim := { program := "ytppbbhpaoflhnaa", sum := "cb7c5f4d8807fa8c1fec7b48e23fd16d9930060a48df810fe251692971b1f3c6", func := "ravelin/ravelinlaw01.WordBytes", spec := "wordBytes", apart := false, narrowed := true }
def WordBytesUptoSaid : Prop := wordBytesUptoRow.holds Try.pinned (OpenSpec.upto wordBytesSpec)

/-- 'ravelinlaw01.WordStored', WHERE WHAT IT READS IS OF BULK AT MOST 1048576: true; the input reads as it did. -/
def wordStoredUptoRow : OpenClaim := { program := "ytppbbhpaoflhnaa", sum := "cb7c5f4d8807fa8c1fec7b48e23fd16d9930060a48df810fe251692971b1f3c6", func := "ravelin/ravelinlaw01.WordStored", spec := "wordStored", apart := false, narrowed := true }
def WordStoredUptoSaid : Prop := wordStoredUptoRow.holds Try.pinned (OpenSpec.upto wordStoredSpec)

end Rows
end Go.Proofs.Ytppbbhpaoflhnaa
