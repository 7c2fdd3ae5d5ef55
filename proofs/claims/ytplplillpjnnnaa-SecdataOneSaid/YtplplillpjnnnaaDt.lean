/- Data as nine words, its cells, and its 64 bytes: what is stored, in the order of the program, is what the document lays out. Conditions: those of each theorem. -/
import Derived.Test.YtplplillpjnnnaaFactsA
namespace Go.Proofs.Ytplplillpjnnnaa.Dat
open Go.RowKit Go.Proofs.Ytplplillpjnnnaa.Bits Go.Proofs.YtplplillpjnnnaaW.PrintWords Go.Proofs.YtplplillpjnnnaaW.PrintLast Go.Proofs.YtplplillpjnnnaaW.PrintMore
set_option linter.unusedVariables false
set_option linter.unusedSimpArgs false

/-- Data: the number, the architecture, the place, six arguments. -/
structure Dt where
  nr : BitVec 64
  arch : BitVec 64
  ip : BitVec 64
  a0 : BitVec 64
  a1 : BitVec 64
  a2 : BitVec 64
  a3 : BitVec 64
  a4 : BitVec 64
  a5 : BitVec 64
def Dt.arg (d : Dt) : Nat → BitVec 64
  | 0 => d.a0 | 1 => d.a1 | 2 => d.a2 | 3 => d.a3 | 4 => d.a4 | _ => d.a5
def Dt.vals (d : Dt) : List Value := [.int .u32 (U d.nr), .int .u32 (U d.arch), .int .u64 (U d.ip), .int .u64 (U d.a0), .int .u64 (U d.a1), .int .u64 (U d.a2), .int .u64 (U d.a3), .int .u64 (U d.a4), .int .u64 (U d.a5)]
theorem Dt.val3 (d : Dt) (i : Nat) (h : i < 6) : d.vals.toArray[3 + i]? = some (.int .u64 (U (d.arg i))) := by
  rcases i with _ | _ | _ | _ | _ | _ | i <;> first | rfl | omega
/-- So many bytes of a word. -/
def le (n : Nat) (v : BitVec 64) : List Int := (List.range n).map (Bits.byteOf v)
def dB (d : Dt) : List Int := le 4 d.nr ++ (le 4 d.arch ++ (le 8 d.ip ++ (le 8 d.a0 ++ (le 8 d.a1 ++ (le 8 d.a2 ++ (le 8 d.a3 ++ (le 8 d.a4 ++ le 8 d.a5)))))))
/-- What Bytes has written, round by round. -/
def lp (d : Dt) : Nat → List Int
  | 0 => st (st (st (List.replicate 64 0) 0 d.nr 4) 4 d.arch 4) 8 d.ip 8
  | i + 1 => st (lp d i) (16 + 8 * i) (d.arg i) 8
theorem lp_length (d : Dt) : ∀ i, (lp d i).length = 64
  | 0 => by unfold lp; rw [st_length, st_length, st_length]; rfl
  | i + 1 => by unfold lp; rw [st_length, lp_length d i]
theorem lp_dB (d : Dt) : lp d 6 = dB d := by kernel_rfl
theorem dB_length (d : Dt) : (dB d).length = 64 := by rw [← lp_dB]; exact lp_length d 6
theorem isBytes_zero (n : Nat) : isBytes (List.replicate n 0) := fun x hx => by
  rw [List.eq_of_mem_replicate hx]
  omega
theorem lp_bytes (d : Dt) : ∀ i, isBytes (lp d i)
  | 0 => st_bytes (st_bytes (st_bytes (isBytes_zero 64) _ _ _) _ _ _) _ _ _
  | i + 1 => st_bytes (lp_bytes d i) _ _ _
theorem dB_bytes (d : Dt) : isBytes (dB d) := by rw [← lp_dB]; exact lp_bytes d 6
end Go.Proofs.Ytplplillpjnnnaa.Dat
