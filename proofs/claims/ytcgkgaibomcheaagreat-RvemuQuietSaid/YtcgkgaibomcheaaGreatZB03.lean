/- Joined out of this claim's texts: PRvemuRunsx0, Alu, Mb, Jump, RowsOf15. Conditions: those of each theorem. -/
import Derived.Test.YtcgkgaibomcheaaGreatProg
import Derived.Below
import Derived.Deep.Draws
import Derived.Deep.AppendLies
import Derived.Maps.AppendAt
import Derived.OwnWalk
import Derived.Laws.BytesArg
import Derived.Laws.MakeOwn
import Derived.Laws.OwnMore
import Derived.Deep.OwnRows
import Derived.Tactics
import Derived.Lib.ConvBytes
import Derived.Laws.Slices
import Derived.WalkKit
import Derived.KernelRfl
import Derived.RowKit3
import Derived.Deep.LoopGhost
import Derived.Deep.QuietTactic
import Derived.BigQuiet
import Derived.WideLaws
import Derived.Deep.DeepCutAuto
import Derived.Deep.CutBlock
import Derived.Deep.RegionHeld3
import Derived.Laws.Rows
import Derived.Lib.AppendStr
import Derived.ArgAppend
import Derived.Laws.IdiomCopy
import Derived.OrdersHeld
import Derived.Laws.BitsLemmas
import Derived.RowKit
import Derived.Test.YtcgkgaibomcheaaGreatZB01
import Derived.Test.YtcgkgaibomcheaaGreatZB02
section
namespace Go.Proofs.YtcgkgaibomcheaaGreat.PRvemuRuns
open Go.RowKit Go.Proofs.YtcgkgaibomcheaaGreatW.PrintWords Go.Proofs.YtcgkgaibomcheaaGreatW.PrintLast Go.Proofs.YtcgkgaibomcheaaGreatW.PrintMore
attribute [local go_sem] max2_int min2_int max_two min_two max_three min_three max_four min_four   -- for this text's walks alone
set_option linter.unusedVariables false
set_option linter.unusedSimpArgs false



def errW : Option Int → Value
  | none => .nilIface
  | some c => .iface 0 (.int .i64 c)
theorem errW_none : errW none = .nilIface := rfl
theorem errW_some (c : Int) : errW (some c) = .iface 0 (.int .i64 c) := rfl

theorem info5 : (Tryz.prog.info? 5).map (fun i => (i.zero, i.size, i.bytes)) = some (some (.int .u8 0), 1, 1) := by kernel_rfl
-- the values' own types
/-! #### struct type 59 -/
structure S59 where
  f0 : Int
  f1 : Int
  f2 : Int
  f3 : Int
  f4 : Int
  f5 : ByteArray
def z59 : S59 := ⟨(0 : Int), (0 : Int), (0 : Int), (0 : Int), (0 : Int), (⟨#[]⟩ : ByteArray)⟩
def k59 : Kd S59 := Kd.iso (Kd.pair (Kd.int .i64) (Kd.pair (Kd.int .i64) (Kd.pair (Kd.int .u32) (Kd.pair (Kd.int .u32) (Kd.pair (Kd.int .u32) Kd.string))))) (fun x : S59 => (x.f0, x.f1, x.f2, x.f3, x.f4, x.f5))
theorem k59_open {w : World} {x : S59} {cs : List Value} (h : k59.K w x cs) : cs = [.int .i64 x.f0, .int .i64 x.f1, .int .u32 x.f2, .int .u32 x.f3, .int .u32 x.f4, .string x.f5] := by
  obtain ⟨_, _, rfl, rfl, ⟨_, _, rfl, rfl, ⟨_, _, rfl, rfl, ⟨_, _, rfl, rfl, ⟨_, _, rfl, rfl, rfl⟩⟩⟩⟩⟩ := h
  exact rfl
theorem k59_mkM (w : World) (base : Nat) (ok : Nat → Prop) (x : S59)  : k59.M w base ok x [.int .i64 x.f0, .int .i64 x.f1, .int .u32 x.f2, .int .u32 x.f3, .int .u32 x.f4, .string x.f5] := ⟨[.int .i64 x.f0], [.int .i64 x.f1, .int .u32 x.f2, .int .u32 x.f3, .int .u32 x.f4, .string x.f5], rfl, rfl, ⟨[.int .i64 x.f1], [.int .u32 x.f2, .int .u32 x.f3, .int .u32 x.f4, .string x.f5], rfl, rfl, ⟨[.int .u32 x.f2], [.int .u32 x.f3, .int .u32 x.f4, .string x.f5], rfl, rfl, ⟨[.int .u32 x.f3], [.int .u32 x.f4, .string x.f5], rfl, rfl, ⟨[.int .u32 x.f4], [.string x.f5], rfl, rfl, rfl⟩⟩⟩⟩⟩
def rd_T59 (xs : List S59) (i : Int) : S59 := xs.getD i.toNat z59
theorem at_T59 {w : World} {A : Option Addr} {n : Nat} {xs : List S59} (h : Kd.C k59 w A n xs) (i : Int) (h0 : 0 ≤ i) (h1 : i < n) : ∃ ad , A = some ad ∧ w.cell? (ad.add (i.toNat * 6)) = some (.int .i64 (rd_T59 xs i).f0) ∧ w.cell? ⟨(ad.add (i.toNat * 6)).block, (ad.add (i.toNat * 6)).off + 1, none⟩ = some (.int .i64 (rd_T59 xs i).f1) ∧ w.cell? ⟨(ad.add (i.toNat * 6)).block, (ad.add (i.toNat * 6)).off + 2, none⟩ = some (.int .u32 (rd_T59 xs i).f2) ∧ w.cell? ⟨(ad.add (i.toNat * 6)).block, (ad.add (i.toNat * 6)).off + 3, none⟩ = some (.int .u32 (rd_T59 xs i).f3) ∧ w.cell? ⟨(ad.add (i.toNat * 6)).block, (ad.add (i.toNat * 6)).off + 4, none⟩ = some (.int .u32 (rd_T59 xs i).f4) ∧ w.cell? ⟨(ad.add (i.toNat * 6)).block, (ad.add (i.toNat * 6)).off + 5, none⟩ = some (.string (rd_T59 xs i).f5) := by
  obtain ⟨ad, c, e, _, hK, hc0⟩ := Kd.C_get h z59 i h0 h1
  have hc : ∀ j u, c[j]? = some u → w.cell? (ad.add (i.toNat * 6 + j)) = some u := hc0
  obtain rfl := k59_open hK
  exact ⟨ad, e, hc 0 _ rfl, by rw [← add_field _ _ 1 (by omega)]; exact hc 1 _ rfl, by rw [← add_field _ _ 2 (by omega)]; exact hc 2 _ rfl, by rw [← add_field _ _ 3 (by omega)]; exact hc 3 _ rfl, by rw [← add_field _ _ 4 (by omega)]; exact hc 4 _ rfl, by rw [← add_field _ _ 5 (by omega)]; exact hc 5 _ rfl⟩

/-! #### struct type 42 -/
structure S42 where
  f0 : Int
  f1 : Int
  f2 : Int
  f3 : Int
  f4 : Int
def z42 : S42 := ⟨(0 : Int), (0 : Int), (0 : Int), (0 : Int), (0 : Int)⟩
def k42 : Kd S42 := Kd.iso (Kd.pair (Kd.int .i64) (Kd.pair (Kd.int .i64) (Kd.pair (Kd.int .i64) (Kd.pair (Kd.int .i64) (Kd.int .i64))))) (fun x : S42 => (x.f0, x.f1, x.f2, x.f3, x.f4))
theorem k42_open {w : World} {x : S42} {cs : List Value} (h : k42.K w x cs) : cs = [.int .i64 x.f0, .int .i64 x.f1, .int .i64 x.f2, .int .i64 x.f3, .int .i64 x.f4] := by
  obtain ⟨_, _, rfl, rfl, ⟨_, _, rfl, rfl, ⟨_, _, rfl, rfl, ⟨_, _, rfl, rfl, rfl⟩⟩⟩⟩ := h
  exact rfl
theorem k42_mk (w : World) (x : S42)  : k42.K w x [.int .i64 x.f0, .int .i64 x.f1, .int .i64 x.f2, .int .i64 x.f3, .int .i64 x.f4] := ⟨[.int .i64 x.f0], [.int .i64 x.f1, .int .i64 x.f2, .int .i64 x.f3, .int .i64 x.f4], rfl, rfl, ⟨[.int .i64 x.f1], [.int .i64 x.f2, .int .i64 x.f3, .int .i64 x.f4], rfl, rfl, ⟨[.int .i64 x.f2], [.int .i64 x.f3, .int .i64 x.f4], rfl, rfl, ⟨[.int .i64 x.f3], [.int .i64 x.f4], rfl, rfl, rfl⟩⟩⟩⟩
theorem k42_mkM (w : World) (base : Nat) (ok : Nat → Prop) (x : S42)  : k42.M w base ok x [.int .i64 x.f0, .int .i64 x.f1, .int .i64 x.f2, .int .i64 x.f3, .int .i64 x.f4] := ⟨[.int .i64 x.f0], [.int .i64 x.f1, .int .i64 x.f2, .int .i64 x.f3, .int .i64 x.f4], rfl, rfl, ⟨[.int .i64 x.f1], [.int .i64 x.f2, .int .i64 x.f3, .int .i64 x.f4], rfl, rfl, ⟨[.int .i64 x.f2], [.int .i64 x.f3, .int .i64 x.f4], rfl, rfl, ⟨[.int .i64 x.f3], [.int .i64 x.f4], rfl, rfl, rfl⟩⟩⟩⟩
def rd_T42 (xs : List S42) (i : Int) : S42 := xs.getD i.toNat z42
theorem at_T42 {w : World} {A : Option Addr} {n : Nat} {xs : List S42} (h : Kd.C k42 w A n xs) (i : Int) (h0 : 0 ≤ i) (h1 : i < n) : ∃ ad , A = some ad ∧ w.cell? (ad.add (i.toNat * 5)) = some (.int .i64 (rd_T42 xs i).f0) ∧ w.cell? ⟨(ad.add (i.toNat * 5)).block, (ad.add (i.toNat * 5)).off + 1, none⟩ = some (.int .i64 (rd_T42 xs i).f1) ∧ w.cell? ⟨(ad.add (i.toNat * 5)).block, (ad.add (i.toNat * 5)).off + 2, none⟩ = some (.int .i64 (rd_T42 xs i).f2) ∧ w.cell? ⟨(ad.add (i.toNat * 5)).block, (ad.add (i.toNat * 5)).off + 3, none⟩ = some (.int .i64 (rd_T42 xs i).f3) ∧ w.cell? ⟨(ad.add (i.toNat * 5)).block, (ad.add (i.toNat * 5)).off + 4, none⟩ = some (.int .i64 (rd_T42 xs i).f4) := by
  obtain ⟨ad, c, e, _, hK, hc0⟩ := Kd.C_get h z42 i h0 h1
  have hc : ∀ j u, c[j]? = some u → w.cell? (ad.add (i.toNat * 5 + j)) = some u := hc0
  obtain rfl := k42_open hK
  exact ⟨ad, e, hc 0 _ rfl, by rw [← add_field _ _ 1 (by omega)]; exact hc 1 _ rfl, by rw [← add_field _ _ 2 (by omega)]; exact hc 2 _ rfl, by rw [← add_field _ _ 3 (by omega)]; exact hc 3 _ rfl, by rw [← add_field _ _ 4 (by omega)]; exact hc 4 _ rfl⟩

/-! #### struct type 54 -/
structure S54 where
  f0 : Bool
  f1 : Int
  f2 : Int
def z54 : S54 := ⟨false, (0 : Int), (0 : Int)⟩
def k54 : Kd S54 := Kd.iso (Kd.pair Kd.bool (Kd.pair (Kd.int .u64) (Kd.int .i64))) (fun x : S54 => (x.f0, x.f1, x.f2))
theorem k54_open {w : World} {x : S54} {cs : List Value} (h : k54.K w x cs) : cs = [.bool x.f0, .int .u64 x.f1, .int .i64 x.f2] := by
  obtain ⟨_, _, rfl, rfl, ⟨_, _, rfl, rfl, rfl⟩⟩ := h
  exact rfl
theorem k54_mkM (w : World) (base : Nat) (ok : Nat → Prop) (x : S54)  : k54.M w base ok x [.bool x.f0, .int .u64 x.f1, .int .i64 x.f2] := ⟨[.bool x.f0], [.int .u64 x.f1, .int .i64 x.f2], rfl, rfl, ⟨[.int .u64 x.f1], [.int .i64 x.f2], rfl, rfl, rfl⟩⟩
def rd_T54 (xs : List S54) (i : Int) : S54 := xs.getD i.toNat z54
theorem at_T54 {w : World} {A : Option Addr} {n : Nat} {xs : List S54} (h : Kd.C k54 w A n xs) (i : Int) (h0 : 0 ≤ i) (h1 : i < n) : ∃ ad , A = some ad ∧ w.cell? (ad.add (i.toNat * 3)) = some (.bool (rd_T54 xs i).f0) ∧ w.cell? ⟨(ad.add (i.toNat * 3)).block, (ad.add (i.toNat * 3)).off + 1, none⟩ = some (.int .u64 (rd_T54 xs i).f1) ∧ w.cell? ⟨(ad.add (i.toNat * 3)).block, (ad.add (i.toNat * 3)).off + 2, none⟩ = some (.int .i64 (rd_T54 xs i).f2) := by
  obtain ⟨ad, c, e, _, hK, hc0⟩ := Kd.C_get h z54 i h0 h1
  have hc : ∀ j u, c[j]? = some u → w.cell? (ad.add (i.toNat * 3 + j)) = some u := hc0
  obtain rfl := k54_open hK
  exact ⟨ad, e, hc 0 _ rfl, by rw [← add_field _ _ 1 (by omega)]; exact hc 1 _ rfl, by rw [← add_field _ _ 2 (by omega)]; exact hc 2 _ rfl⟩

end Go.Proofs.YtcgkgaibomcheaaGreat.PRvemuRuns
end

section
/- The machine's operations that touch no memory. No condition. -/
namespace Go.Proofs.YtcgkgaibomcheaaGreat.Alu
open Go.RowKit Go.Proofs.YtcgkgaibomcheaaGreat.Bits Go.Proofs.YtcgkgaibomcheaaGreatW.PrintWords Go.Proofs.YtcgkgaibomcheaaGreatW.PrintLast Go.Proofs.YtcgkgaibomcheaaGreatW.PrintMore
set_option linter.unusedVariables false
set_option linter.unusedSimpArgs false

/-- 32 bits, the sign laid out; 32 bits, zeros above. -/
def s32 (v : BitVec 64) : BitVec 64 := sx v 32
def low (v : BitVec 64) : BitVec 64 := BitVec.ofNat 64 (v.toNat % 4294967296)
theorem low_U (v : BitVec 64) : U (low v) = U v % 4294967296 := by
  unfold U low
  rw [BitVec.toNat_ofNat]
  omega
theorem addU (a b : BitVec 64) : IntKind.u64.wrap (U a + U b) = U (a + b) := by
  rw [wrapU]
  unfold U
  rw [← Int.natCast_add, BitVec.ofInt_natCast, BitVec.ofNat_add, BitVec.ofNat_toNat, BitVec.ofNat_toNat, BitVec.setWidth_eq, BitVec.setWidth_eq]
theorem mulU (a b : BitVec 64) : IntKind.u64.wrap (U a * U b) = U (a * b) := by
  rw [wrapU]
  unfold U
  rw [← Int.natCast_mul, BitVec.ofInt_natCast, BitVec.ofNat_mul, BitVec.ofNat_toNat, BitVec.ofNat_toNat, BitVec.setWidth_eq, BitVec.setWidth_eq]
theorem subU (a b : BitVec 64) : IntKind.u64.wrap (U a - U b) = U (a - b) := by
  simp only [IntKind.wrap, IntKind.bits, IntKind.signed, Bool.false_and, Bool.false_eq_true, if_false]
  unfold U
  rw [BitVec.toNat_sub]
  have := a.isLt; have := b.isLt
  omega
theorem toNatU (v : BitVec 64) : (U v).toNat = v.toNat := by unfold U; exact Int.toNat_natCast _
theorem shlU (a k : BitVec 64) : IntKind.u64.wrap (U a * 2 ^ min (U k).toNat 64) = U (a <<< k.toNat) := by
  have h := shl_U a (U k)
  rw [toNatU] at h
  exact h
theorem shrU (a k : BitVec 64) : U a / 2 ^ min (U k).toNat 64 = U (a >>> k.toNat) := by
  have h := shr_U a (U k)
  rw [toNatU] at h
  exact h
theorem shl12 (k : BitVec 64) : IntKind.u64.wrap (U k * 4096) = U (k <<< 12) := shl_U k 12
theorem s32W (v : BitVec 64) (h : IntKind.u64.wrap (IntKind.i32.wrap (U v)) = U (s32 v)) : IntKind.u64.wrap (wrap64 (wrap32 (U v))) = U (s32 v) := by
  have e : wrap64 (wrap32 (U v)) = IntKind.i32.wrap (U v) := by
    unfold wrap64 wrap32
    simp only [IntKind.wrap, IntKind.bits, IntKind.signed, Bool.true_and]
    have := U_nonneg v
    split <;> simp_all <;> omega
  rw [e, h]
theorem lowU (v : BitVec 64) : U v % 4294967296 = U (low v) := (low_U v).symm
theorem and63 (b : BitVec 64) : Go.bits .and .u64 (U b) 63 = U (b &&& 63#64) := and_U b 63#64
theorem and31 (b : BitVec 64) : Go.bits .and .u64 (U b) 31 = U (b &&& 31#64) := and_U b 31#64
theorem s32_U (v : BitVec 64) : IntKind.u64.wrap (IntKind.i32.wrap (U v)) = U (s32 v) := by
  have e : (sx v 32).toInt = IntKind.i32.wrap (U v) := by
    unfold sx
    rw [if_neg (by omega)]
    have hn : 64 - min (Int.toNat 32) 64 = 32 := by decide
    rw [hn, BitVec.toInt_sshiftRight, Int.shiftRight_eq_div_pow, BitVec.toInt_eq_toNat_cond, BitVec.toNat_shiftLeft, Nat.shiftLeft_eq]
    simp only [IntKind.wrap, IntKind.bits, IntKind.signed, Bool.true_and]
    unfold U
    have := v.isLt
    split <;> split <;> simp_all <;> omega
  unfold s32
  rw [← e, wrapU_toInt]
theorem w_calls (v : BitVec 64) (w : World) : Calls Tryz.prog 95 #[.int .u64 (U v)] w fun e w' => e = .returned (.int .u64 (U (s32 v))) ∧ Below w.heap.size w w' := by
  have h := s32W v (s32_U v)
  go_enter Tryz.func95, Tryz.ntmps95
  go_wp2
  go_ret
  exact ⟨rfl, Below.refl _ _⟩
set_option maxRecDepth 20000 in
theorem op_lui (p : Value) (i0 i1 i2 i3 i4 : Int) (a b k : BitVec 64) (w : World) : Calls Tryz.prog 49 #[p, .agg #[.int .i64 i0, .int .i64 i1, .int .i64 i2, .int .i64 i3, .int .i64 i4], .int .u64 (U a), .int .u64 (U b), .int .u64 (U k)] w fun e w' => e = .returned (.int .u64 (U (s32 (k <<< 12)))) ∧ Below w.heap.size w w' := by
  have h0 := shl12 k
  have HB := Aside0.mk (below_alloc (Below.refl w.heap.size w) (.cells #[.int .i64 i0, .int .i64 i1, .int .i64 i2, .int .i64 i3, .int .i64 i4] 42))
  go_enter Tryz.func49, Tryz.ntmps49
  go_wp2_with fail
  refine (w_calls (k <<< 12) _).mono ?_
  rintro e w1 ⟨rfl, hb⟩
  have HB1 := Aside0.mk (below_step HB.out hb)
  go_wp2
  go_ret
  exact ⟨rfl, HB1.out⟩
set_option maxRecDepth 20000 in
theorem op_addi (p : Value) (i0 i1 i2 i3 i4 : Int) (a b k : BitVec 64) (w : World) : Calls Tryz.prog 50 #[p, .agg #[.int .i64 i0, .int .i64 i1, .int .i64 i2, .int .i64 i3, .int .i64 i4], .int .u64 (U a), .int .u64 (U b), .int .u64 (U k)] w fun e w' => e = .returned (.int .u64 (U (a + k))) ∧ Below w.heap.size w w' := by
  have h0 := addU a k
  have HB := Aside0.mk (below_alloc (Below.refl w.heap.size w) (.cells #[.int .i64 i0, .int .i64 i1, .int .i64 i2, .int .i64 i3, .int .i64 i4] 42))
  go_enter Tryz.func50, Tryz.ntmps50
  go_wp2
  go_ret
  exact ⟨rfl, HB.out⟩
set_option maxRecDepth 20000 in
theorem op_addiw (p : Value) (i0 i1 i2 i3 i4 : Int) (a b k : BitVec 64) (w : World) : Calls Tryz.prog 51 #[p, .agg #[.int .i64 i0, .int .i64 i1, .int .i64 i2, .int .i64 i3, .int .i64 i4], .int .u64 (U a), .int .u64 (U b), .int .u64 (U k)] w fun e w' => e = .returned (.int .u64 (U (s32 (a + k)))) ∧ Below w.heap.size w w' := by
  have h0 := addU a k
  have HB := Aside0.mk (below_alloc (Below.refl w.heap.size w) (.cells #[.int .i64 i0, .int .i64 i1, .int .i64 i2, .int .i64 i3, .int .i64 i4] 42))
  go_enter Tryz.func51, Tryz.ntmps51
  go_wp2_with fail
  refine (w_calls (a + k) _).mono ?_
  rintro e w1 ⟨rfl, hb⟩
  have HB1 := Aside0.mk (below_step HB.out hb)
  go_wp2
  go_ret
  exact ⟨rfl, HB1.out⟩
set_option maxRecDepth 20000 in
theorem op_andi (p : Value) (i0 i1 i2 i3 i4 : Int) (a b k : BitVec 64) (w : World) : Calls Tryz.prog 52 #[p, .agg #[.int .i64 i0, .int .i64 i1, .int .i64 i2, .int .i64 i3, .int .i64 i4], .int .u64 (U a), .int .u64 (U b), .int .u64 (U k)] w fun e w' => e = .returned (.int .u64 (U (a &&& k))) ∧ Below w.heap.size w w' := by
  have h0 := and_U a k
  have HB := Aside0.mk (below_alloc (Below.refl w.heap.size w) (.cells #[.int .i64 i0, .int .i64 i1, .int .i64 i2, .int .i64 i3, .int .i64 i4] 42))
  go_enter Tryz.func52, Tryz.ntmps52
  go_wp2
  go_ret
  exact ⟨rfl, HB.out⟩
set_option maxRecDepth 20000 in
theorem op_ori (p : Value) (i0 i1 i2 i3 i4 : Int) (a b k : BitVec 64) (w : World) : Calls Tryz.prog 53 #[p, .agg #[.int .i64 i0, .int .i64 i1, .int .i64 i2, .int .i64 i3, .int .i64 i4], .int .u64 (U a), .int .u64 (U b), .int .u64 (U k)] w fun e w' => e = .returned (.int .u64 (U (a ||| k))) ∧ Below w.heap.size w w' := by
  have h0 := or_U a k
  have HB := Aside0.mk (below_alloc (Below.refl w.heap.size w) (.cells #[.int .i64 i0, .int .i64 i1, .int .i64 i2, .int .i64 i3, .int .i64 i4] 42))
  go_enter Tryz.func53, Tryz.ntmps53
  go_wp2
  go_ret
  exact ⟨rfl, HB.out⟩
set_option maxRecDepth 20000 in
theorem op_xori (p : Value) (i0 i1 i2 i3 i4 : Int) (a b k : BitVec 64) (w : World) : Calls Tryz.prog 54 #[p, .agg #[.int .i64 i0, .int .i64 i1, .int .i64 i2, .int .i64 i3, .int .i64 i4], .int .u64 (U a), .int .u64 (U b), .int .u64 (U k)] w fun e w' => e = .returned (.int .u64 (U (a ^^^ k))) ∧ Below w.heap.size w w' := by
  have h0 := xor_U a k
  have HB := Aside0.mk (below_alloc (Below.refl w.heap.size w) (.cells #[.int .i64 i0, .int .i64 i1, .int .i64 i2, .int .i64 i3, .int .i64 i4] 42))
  go_enter Tryz.func54, Tryz.ntmps54
  go_wp2
  go_ret
  exact ⟨rfl, HB.out⟩
set_option maxRecDepth 20000 in
theorem op_slli (p : Value) (i0 i1 i2 i3 i4 : Int) (a b k : BitVec 64) (w : World) : Calls Tryz.prog 55 #[p, .agg #[.int .i64 i0, .int .i64 i1, .int .i64 i2, .int .i64 i3, .int .i64 i4], .int .u64 (U a), .int .u64 (U b), .int .u64 (U k)] w fun e w' => e = .returned (.int .u64 (U (a <<< k.toNat))) ∧ Below w.heap.size w w' := by
  have h0 := U_nonneg k
  have h1 := shlU (a) k
  have HB := Aside0.mk (below_alloc (Below.refl w.heap.size w) (.cells #[.int .i64 i0, .int .i64 i1, .int .i64 i2, .int .i64 i3, .int .i64 i4] 42))
  go_enter Tryz.func55, Tryz.ntmps55
  go_wp2
  go_ret
  exact ⟨rfl, HB.out⟩
set_option maxRecDepth 20000 in
theorem op_srli (p : Value) (i0 i1 i2 i3 i4 : Int) (a b k : BitVec 64) (w : World) : Calls Tryz.prog 56 #[p, .agg #[.int .i64 i0, .int .i64 i1, .int .i64 i2, .int .i64 i3, .int .i64 i4], .int .u64 (U a), .int .u64 (U b), .int .u64 (U k)] w fun e w' => e = .returned (.int .u64 (U (a >>> k.toNat))) ∧ Below w.heap.size w w' := by
  have h0 := U_nonneg k
  have h1 := shrU (a) k
  have HB := Aside0.mk (below_alloc (Below.refl w.heap.size w) (.cells #[.int .i64 i0, .int .i64 i1, .int .i64 i2, .int .i64 i3, .int .i64 i4] 42))
  go_enter Tryz.func56, Tryz.ntmps56
  go_wp2
  go_ret
  exact ⟨rfl, HB.out⟩
set_option maxRecDepth 20000 in
theorem op_slliw (p : Value) (i0 i1 i2 i3 i4 : Int) (a b k : BitVec 64) (w : World) : Calls Tryz.prog 57 #[p, .agg #[.int .i64 i0, .int .i64 i1, .int .i64 i2, .int .i64 i3, .int .i64 i4], .int .u64 (U a), .int .u64 (U b), .int .u64 (U k)] w fun e w' => e = .returned (.int .u64 (U (s32 (a <<< k.toNat)))) ∧ Below w.heap.size w w' := by
  have h0 := U_nonneg k
  have h1 := shlU (a) k
  have HB := Aside0.mk (below_alloc (Below.refl w.heap.size w) (.cells #[.int .i64 i0, .int .i64 i1, .int .i64 i2, .int .i64 i3, .int .i64 i4] 42))
  go_enter Tryz.func57, Tryz.ntmps57
  go_wp2_with fail
  refine (w_calls (a <<< k.toNat) _).mono ?_
  rintro e w1 ⟨rfl, hb⟩
  have HB1 := Aside0.mk (below_step HB.out hb)
  go_wp2
  go_ret
  exact ⟨rfl, HB1.out⟩
set_option maxRecDepth 20000 in
theorem op_srliw (p : Value) (i0 i1 i2 i3 i4 : Int) (a b k : BitVec 64) (w : World) : Calls Tryz.prog 58 #[p, .agg #[.int .i64 i0, .int .i64 i1, .int .i64 i2, .int .i64 i3, .int .i64 i4], .int .u64 (U a), .int .u64 (U b), .int .u64 (U k)] w fun e w' => e = .returned (.int .u64 (U (s32 (low a >>> k.toNat)))) ∧ Below w.heap.size w w' := by
  have h0 := lowU a
  have h1 := U_nonneg k
  have h2 := shrU (low a) k
  have HB := Aside0.mk (below_alloc (Below.refl w.heap.size w) (.cells #[.int .i64 i0, .int .i64 i1, .int .i64 i2, .int .i64 i3, .int .i64 i4] 42))
  go_enter Tryz.func58, Tryz.ntmps58
  go_wp2_with fail
  refine (w_calls (low a >>> k.toNat) _).mono ?_
  rintro e w1 ⟨rfl, hb⟩
  have HB1 := Aside0.mk (below_step HB.out hb)
  go_wp2
  go_ret
  exact ⟨rfl, HB1.out⟩
set_option maxRecDepth 20000 in
theorem op_add (p : Value) (i0 i1 i2 i3 i4 : Int) (a b k : BitVec 64) (w : World) : Calls Tryz.prog 64 #[p, .agg #[.int .i64 i0, .int .i64 i1, .int .i64 i2, .int .i64 i3, .int .i64 i4], .int .u64 (U a), .int .u64 (U b), .int .u64 (U k)] w fun e w' => e = .returned (.int .u64 (U (a + b))) ∧ Below w.heap.size w w' := by
  have h0 := addU a b
  have HB := Aside0.mk (below_alloc (Below.refl w.heap.size w) (.cells #[.int .i64 i0, .int .i64 i1, .int .i64 i2, .int .i64 i3, .int .i64 i4] 42))
  go_enter Tryz.func64, Tryz.ntmps64
  go_wp2
  go_ret
  exact ⟨rfl, HB.out⟩
set_option maxRecDepth 20000 in
theorem op_sub (p : Value) (i0 i1 i2 i3 i4 : Int) (a b k : BitVec 64) (w : World) : Calls Tryz.prog 65 #[p, .agg #[.int .i64 i0, .int .i64 i1, .int .i64 i2, .int .i64 i3, .int .i64 i4], .int .u64 (U a), .int .u64 (U b), .int .u64 (U k)] w fun e w' => e = .returned (.int .u64 (U (a - b))) ∧ Below w.heap.size w w' := by
  have h0 := subU a b
  have HB := Aside0.mk (below_alloc (Below.refl w.heap.size w) (.cells #[.int .i64 i0, .int .i64 i1, .int .i64 i2, .int .i64 i3, .int .i64 i4] 42))
  go_enter Tryz.func65, Tryz.ntmps65
  go_wp2
  go_ret
  exact ⟨rfl, HB.out⟩
set_option maxRecDepth 20000 in
theorem op_and (p : Value) (i0 i1 i2 i3 i4 : Int) (a b k : BitVec 64) (w : World) : Calls Tryz.prog 66 #[p, .agg #[.int .i64 i0, .int .i64 i1, .int .i64 i2, .int .i64 i3, .int .i64 i4], .int .u64 (U a), .int .u64 (U b), .int .u64 (U k)] w fun e w' => e = .returned (.int .u64 (U (a &&& b))) ∧ Below w.heap.size w w' := by
  have h0 := and_U a b
  have HB := Aside0.mk (below_alloc (Below.refl w.heap.size w) (.cells #[.int .i64 i0, .int .i64 i1, .int .i64 i2, .int .i64 i3, .int .i64 i4] 42))
  go_enter Tryz.func66, Tryz.ntmps66
  go_wp2
  go_ret
  exact ⟨rfl, HB.out⟩
set_option maxRecDepth 20000 in
theorem op_or (p : Value) (i0 i1 i2 i3 i4 : Int) (a b k : BitVec 64) (w : World) : Calls Tryz.prog 67 #[p, .agg #[.int .i64 i0, .int .i64 i1, .int .i64 i2, .int .i64 i3, .int .i64 i4], .int .u64 (U a), .int .u64 (U b), .int .u64 (U k)] w fun e w' => e = .returned (.int .u64 (U (a ||| b))) ∧ Below w.heap.size w w' := by
  have h0 := or_U a b
  have HB := Aside0.mk (below_alloc (Below.refl w.heap.size w) (.cells #[.int .i64 i0, .int .i64 i1, .int .i64 i2, .int .i64 i3, .int .i64 i4] 42))
  go_enter Tryz.func67, Tryz.ntmps67
  go_wp2
  go_ret
  exact ⟨rfl, HB.out⟩
set_option maxRecDepth 20000 in
theorem op_xor (p : Value) (i0 i1 i2 i3 i4 : Int) (a b k : BitVec 64) (w : World) : Calls Tryz.prog 68 #[p, .agg #[.int .i64 i0, .int .i64 i1, .int .i64 i2, .int .i64 i3, .int .i64 i4], .int .u64 (U a), .int .u64 (U b), .int .u64 (U k)] w fun e w' => e = .returned (.int .u64 (U (a ^^^ b))) ∧ Below w.heap.size w w' := by
  have h0 := xor_U a b
  have HB := Aside0.mk (below_alloc (Below.refl w.heap.size w) (.cells #[.int .i64 i0, .int .i64 i1, .int .i64 i2, .int .i64 i3, .int .i64 i4] 42))
  go_enter Tryz.func68, Tryz.ntmps68
  go_wp2
  go_ret
  exact ⟨rfl, HB.out⟩
set_option maxRecDepth 20000 in
theorem op_sll (p : Value) (i0 i1 i2 i3 i4 : Int) (a b k : BitVec 64) (w : World) : Calls Tryz.prog 69 #[p, .agg #[.int .i64 i0, .int .i64 i1, .int .i64 i2, .int .i64 i3, .int .i64 i4], .int .u64 (U a), .int .u64 (U b), .int .u64 (U k)] w fun e w' => e = .returned (.int .u64 (U (a <<< (b &&& 63#64).toNat))) ∧ Below w.heap.size w w' := by
  have h0 := and63 b
  have h1 := U_nonneg (b &&& 63#64)
  have h2 := shlU (a) (b &&& 63#64)
  have HB := Aside0.mk (below_alloc (Below.refl w.heap.size w) (.cells #[.int .i64 i0, .int .i64 i1, .int .i64 i2, .int .i64 i3, .int .i64 i4] 42))
  go_enter Tryz.func69, Tryz.ntmps69
  go_wp2
  go_ret
  exact ⟨rfl, HB.out⟩
set_option maxRecDepth 20000 in
theorem op_srl (p : Value) (i0 i1 i2 i3 i4 : Int) (a b k : BitVec 64) (w : World) : Calls Tryz.prog 70 #[p, .agg #[.int .i64 i0, .int .i64 i1, .int .i64 i2, .int .i64 i3, .int .i64 i4], .int .u64 (U a), .int .u64 (U b), .int .u64 (U k)] w fun e w' => e = .returned (.int .u64 (U (a >>> (b &&& 63#64).toNat))) ∧ Below w.heap.size w w' := by
  have h0 := and63 b
  have h1 := U_nonneg (b &&& 63#64)
  have h2 := shrU (a) (b &&& 63#64)
  have HB := Aside0.mk (below_alloc (Below.refl w.heap.size w) (.cells #[.int .i64 i0, .int .i64 i1, .int .i64 i2, .int .i64 i3, .int .i64 i4] 42))
  go_enter Tryz.func70, Tryz.ntmps70
  go_wp2
  go_ret
  exact ⟨rfl, HB.out⟩
set_option maxRecDepth 20000 in
theorem op_addw (p : Value) (i0 i1 i2 i3 i4 : Int) (a b k : BitVec 64) (w : World) : Calls Tryz.prog 71 #[p, .agg #[.int .i64 i0, .int .i64 i1, .int .i64 i2, .int .i64 i3, .int .i64 i4], .int .u64 (U a), .int .u64 (U b), .int .u64 (U k)] w fun e w' => e = .returned (.int .u64 (U (s32 (a + b)))) ∧ Below w.heap.size w w' := by
  have h0 := addU a b
  have HB := Aside0.mk (below_alloc (Below.refl w.heap.size w) (.cells #[.int .i64 i0, .int .i64 i1, .int .i64 i2, .int .i64 i3, .int .i64 i4] 42))
  go_enter Tryz.func71, Tryz.ntmps71
  go_wp2_with fail
  refine (w_calls (a + b) _).mono ?_
  rintro e w1 ⟨rfl, hb⟩
  have HB1 := Aside0.mk (below_step HB.out hb)
  go_wp2
  go_ret
  exact ⟨rfl, HB1.out⟩
set_option maxRecDepth 20000 in
theorem op_subw (p : Value) (i0 i1 i2 i3 i4 : Int) (a b k : BitVec 64) (w : World) : Calls Tryz.prog 72 #[p, .agg #[.int .i64 i0, .int .i64 i1, .int .i64 i2, .int .i64 i3, .int .i64 i4], .int .u64 (U a), .int .u64 (U b), .int .u64 (U k)] w fun e w' => e = .returned (.int .u64 (U (s32 (a - b)))) ∧ Below w.heap.size w w' := by
  have h0 := subU a b
  have HB := Aside0.mk (below_alloc (Below.refl w.heap.size w) (.cells #[.int .i64 i0, .int .i64 i1, .int .i64 i2, .int .i64 i3, .int .i64 i4] 42))
  go_enter Tryz.func72, Tryz.ntmps72
  go_wp2_with fail
  refine (w_calls (a - b) _).mono ?_
  rintro e w1 ⟨rfl, hb⟩
  have HB1 := Aside0.mk (below_step HB.out hb)
  go_wp2
  go_ret
  exact ⟨rfl, HB1.out⟩
set_option maxRecDepth 20000 in
theorem op_mulw (p : Value) (i0 i1 i2 i3 i4 : Int) (a b k : BitVec 64) (w : World) : Calls Tryz.prog 73 #[p, .agg #[.int .i64 i0, .int .i64 i1, .int .i64 i2, .int .i64 i3, .int .i64 i4], .int .u64 (U a), .int .u64 (U b), .int .u64 (U k)] w fun e w' => e = .returned (.int .u64 (U (s32 (a * b)))) ∧ Below w.heap.size w w' := by
  have h0 := mulU a b
  have HB := Aside0.mk (below_alloc (Below.refl w.heap.size w) (.cells #[.int .i64 i0, .int .i64 i1, .int .i64 i2, .int .i64 i3, .int .i64 i4] 42))
  go_enter Tryz.func73, Tryz.ntmps73
  go_wp2_with fail
  refine (w_calls (a * b) _).mono ?_
  rintro e w1 ⟨rfl, hb⟩
  have HB1 := Aside0.mk (below_step HB.out hb)
  go_wp2
  go_ret
  exact ⟨rfl, HB1.out⟩
set_option maxRecDepth 20000 in
theorem op_sllw (p : Value) (i0 i1 i2 i3 i4 : Int) (a b k : BitVec 64) (w : World) : Calls Tryz.prog 75 #[p, .agg #[.int .i64 i0, .int .i64 i1, .int .i64 i2, .int .i64 i3, .int .i64 i4], .int .u64 (U a), .int .u64 (U b), .int .u64 (U k)] w fun e w' => e = .returned (.int .u64 (U (s32 (a <<< (b &&& 31#64).toNat)))) ∧ Below w.heap.size w w' := by
  have h0 := and31 b
  have h1 := U_nonneg (b &&& 31#64)
  have h2 := shlU (a) (b &&& 31#64)
  have HB := Aside0.mk (below_alloc (Below.refl w.heap.size w) (.cells #[.int .i64 i0, .int .i64 i1, .int .i64 i2, .int .i64 i3, .int .i64 i4] 42))
  go_enter Tryz.func75, Tryz.ntmps75
  go_wp2_with fail
  refine (w_calls (a <<< (b &&& 31#64).toNat) _).mono ?_
  rintro e w1 ⟨rfl, hb⟩
  have HB1 := Aside0.mk (below_step HB.out hb)
  go_wp2
  go_ret
  exact ⟨rfl, HB1.out⟩
set_option maxRecDepth 20000 in
theorem op_srlw (p : Value) (i0 i1 i2 i3 i4 : Int) (a b k : BitVec 64) (w : World) : Calls Tryz.prog 76 #[p, .agg #[.int .i64 i0, .int .i64 i1, .int .i64 i2, .int .i64 i3, .int .i64 i4], .int .u64 (U a), .int .u64 (U b), .int .u64 (U k)] w fun e w' => e = .returned (.int .u64 (U (s32 (low a >>> (b &&& 31#64).toNat)))) ∧ Below w.heap.size w w' := by
  have h0 := and31 b
  have h1 := lowU a
  have h2 := U_nonneg (b &&& 31#64)
  have h3 := shrU (low a) (b &&& 31#64)
  have HB := Aside0.mk (below_alloc (Below.refl w.heap.size w) (.cells #[.int .i64 i0, .int .i64 i1, .int .i64 i2, .int .i64 i3, .int .i64 i4] 42))
  go_enter Tryz.func76, Tryz.ntmps76
  go_wp2_with fail
  refine (w_calls (low a >>> (b &&& 31#64).toNat) _).mono ?_
  rintro e w1 ⟨rfl, hb⟩
  have HB1 := Aside0.mk (below_step HB.out hb)
  go_wp2
  go_ret
  exact ⟨rfl, HB1.out⟩
end Go.Proofs.YtcgkgaibomcheaaGreat.Alu
end

section
/- The block of the program's machine, cell by cell; the operations that turn the place. Conditions: those of each theorem. -/
namespace Go.Proofs.YtcgkgaibomcheaaGreat.Mb
open Go.RowKit Go.Proofs.YtcgkgaibomcheaaGreat.Bits Go.Proofs.YtcgkgaibomcheaaGreat.Alu Go.Proofs.YtcgkgaibomcheaaGreatW.PrintWords Go.Proofs.YtcgkgaibomcheaaGreatW.PrintLast Go.Proofs.YtcgkgaibomcheaaGreatW.PrintMore
set_option linter.unusedVariables false
set_option linter.unusedSimpArgs false

/-- A block of type T holds the n values v. -/
def MB (T n : Nat) (W : World) (g : Nat) (v : Nat → Value) : Prop := ∃ cs : Array Value, W.heap[g]? = some (.cells cs T (0, 0)) ∧ ∀ i, i < n → cs[i]? = some (v i)
theorem MB.cell {T n : Nat} {W : World} {g : Nat} {v : Nat → Value} (h : MB T n W g v) (i : Nat) (hi : i < n) : W.cell? ⟨g, i, none⟩ = some (v i) := by
  obtain ⟨cs, h1, h2⟩ := h
  exact (blk_cell h1 i).trans (h2 i hi)
theorem MB.frozen {T n : Nat} {W : World} {g : Nat} {v : Nat → Value} (h : MB T n W g v) (i : Nat) : W.frozen? ⟨g, i, none⟩ = false := by
  obtain ⟨cs, h1, h2⟩ := h
  exact blk_frozen h1 i
theorem MB.lt {T n : Nat} {W : World} {g : Nat} {v : Nat → Value} (h : MB T n W g v) : g < W.heap.size := by
  obtain ⟨cs, h1, h2⟩ := h
  exact blk_lt h1
theorem MB.of {T n : Nat} {W W' : World} {g : Nat} {v : Nat → Value} (h : MB T n W g v) (hb : W'.heap[g]? = W.heap[g]?) : MB T n W' g v := by
  obtain ⟨cs, h1, h2⟩ := h
  exact ⟨cs, hb.trans h1, h2⟩
theorem MB.below {T n : Nat} {W W' : World} {g : Nat} {v : Nat → Value} (h : MB T n W g v) (hb : Below W.heap.size W W') : MB T n W' g v := h.of (hb.block g h.lt)
theorem MB.put {T n : Nat} {W : World} {g : Nat} {v : Nat → Value} (h : MB T n W g v) (j : Nat) (u : Value) (v' : Nat → Value) (hj : v' j = u) (hv : ∀ i, i < n → i ≠ j → v' i = v i) : MB T n (W.setCell ⟨g, j, none⟩ u) g v' := by
  obtain ⟨cs, h1, h2⟩ := h
  refine ⟨_, blk_set h1 j u, fun i hi => ?_⟩
  rw [Array.getElem?_setIfInBounds]
  by_cases e : j = i
  · subst e
    have hs : j < cs.size := (Array.getElem?_eq_some_iff.1 (h2 j hi)).1
    rw [if_pos rfl, if_pos hs, hj]
  · rw [if_neg e, h2 i hi, hv i hi (fun x => e x.symm)]
theorem MB.far {T n : Nat} {W : World} {g : Nat} {v : Nat → Value} (h : MB T n W g v) {p : Addr} (hp : g ≠ p.block) (u : Value) : MB T n (W.setCell p u) g v := h.of (Below.heap_setCell W p u g hp)
/-- What writes block g alone. -/
def Only (g : Nat) (W W' : World) : Prop := Kept W W' (fun k => k = g) ∧ W'.os = W.os ∧ W'.tape = W.tape ∧ W'.output = W.output
theorem Only.refl (g : Nat) (W : World) : Only g W W := ⟨Kept.refl _ _, rfl, rfl, rfl⟩
theorem Only.below {g : Nat} {W W1 W2 : World} (h : Only g W W1) (hb : Below W1.heap.size W1 W2) : Only g W W2 := ⟨h.1.below hb, hb.os.trans h.2.1, hb.tape.trans h.2.2.1, hb.output.trans h.2.2.2⟩
theorem Only.set {g : Nat} {W W1 : World} (h : Only g W W1) (j : Nat) (u : Value) : Only g W (W1.setCell ⟨g, j, none⟩ u) := ⟨h.1.setCell (.inl rfl) u, h.2⟩
theorem Only.then_ {g : Nat} {W W1 W2 : World} (h : Only g W W1) (k : Only g W1 W2) : Only g W W2 := ⟨h.1.then_ k.1 (fun _ hk => .inl hk), k.2.1.trans h.2.1, k.2.2.1.trans h.2.2.1, k.2.2.2.trans h.2.2.2⟩

/-- The values with another place. -/
def atPc (v : Nat → Value) (pc : BitVec 64) : Nat → Value := fun i => if i = 35 then .int .u64 (U pc) else v i
theorem atPc_set {W : World} {g : Nat} {v : Nat → Value} (h : MB 74 42 W g v) (pc : BitVec 64) : MB 74 42 (W.setCell ⟨g, 35, none⟩ (.int .u64 (U pc))) g (atPc v pc) :=
  h.put 35 _ _ rfl (fun i _ hi => if_neg hi)
set_option maxRecDepth 20000 in
theorem goes_no (p : Value) (k : BitVec 64) (w : World) : Calls Tryz.prog 98 #[p, .bool false, .int .u64 (U k)] w fun e w' => e = .returned (.int .u64 (U 0#64)) ∧ w' = w := by
  go_enter Tryz.func98, Tryz.ntmps98
  go_wp2
  go_ret
  exact ⟨rfl, rfl⟩
set_option maxRecDepth 20000 in
theorem goes_yes (g : Nat) (v : Nat → Value) (pc k : BitVec 64) (w : World) (h : MB 74 42 w g v) (hp : v 35 = .int .u64 (U pc)) : Calls Tryz.prog 98 #[.pointer (some ⟨g, 0, none⟩), .bool true, .int .u64 (U k)] w fun e w' => e = .returned (.int .u64 (U 0#64)) ∧ w' = w.setCell ⟨g, 35, none⟩ (.int .u64 (U (pc + (k - 4#64)))) := by
  have hc := (h.cell 35 (by omega)).trans (congrArg some hp)
  have hf := h.frozen 35
  have h4 : IntKind.u64.wrap (U k - 4) = U (k - 4#64) := subU k 4#64
  have ha := addU pc (k - 4#64)
  clear h hp
  go_enter Tryz.func98, Tryz.ntmps98
  go_wp2
  go_ret
  exact ⟨rfl, rfl⟩
end Go.Proofs.YtcgkgaibomcheaaGreat.Mb
end

section
/- The machine's operations that turn the place, and the division. Conditions: the machine's block is there. -/
namespace Go.Proofs.YtcgkgaibomcheaaGreat.Jump
open Go.RowKit Go.Proofs.YtcgkgaibomcheaaGreat.Bits Go.Proofs.YtcgkgaibomcheaaGreat.Alu Go.Proofs.YtcgkgaibomcheaaGreat.Mb Go.Proofs.YtcgkgaibomcheaaGreatW.PrintWords Go.Proofs.YtcgkgaibomcheaaGreatW.PrintLast Go.Proofs.YtcgkgaibomcheaaGreatW.PrintMore
set_option linter.unusedVariables false
set_option linter.unusedSimpArgs false

theorem U_eq (a b : BitVec 64) : (U a == U b) = decide (a = b) := by
  by_cases h : a = b
  · subst h; simp
  · rw [decide_eq_false h, beq_eq_false_iff_ne]
    exact fun e => h (U_inj e)
theorem U_ne (a b : BitVec 64) : (U a != U b) = !decide (a = b) := by rw [bne, U_eq]
theorem U_lt' (a b : BitVec 64) : decide (U a < U b) = decide (a.toNat < b.toNat) := by
  unfold U
  rw [decide_eq_decide]
  omega
theorem U_ge (a b : BitVec 64) : decide (U a ≥ U b) = decide (b.toNat ≤ a.toNat) := by
  unfold U
  rw [decide_eq_decide]
  omega
/-- What a branch leaves. -/
def Goes (g : Nat) (v : Nat → Value) (pc k : BitVec 64) (is : Bool) (w w' : World) : Prop := MB 74 42 w' g (if is = true then atPc v (pc + (k - 4#64)) else v) ∧ Only g w w'
theorem goes (g : Nat) (v : Nat → Value) (pc k : BitVec 64) (w : World) (h : MB 74 42 w g v) (hp : v 35 = .int .u64 (U pc)) (is : Bool) : Calls Tryz.prog 98 #[.pointer (some ⟨g, 0, none⟩), .bool is, .int .u64 (U k)] w fun e w' => e = .returned (.int .u64 (U 0#64)) ∧ Goes g v pc k is w w' := by
  cases is
  · refine (goes_no _ k w).mono ?_
    rintro e w' ⟨rfl, rfl⟩
    exact ⟨rfl, h, Only.refl _ _⟩
  · refine (goes_yes g v pc k w h hp).mono ?_
    rintro e w' ⟨rfl, rfl⟩
    exact ⟨rfl, atPc_set h _, (Only.refl _ _).set _ _⟩
set_option maxRecDepth 20000 in
theorem op_beq (g : Nat) (v : Nat → Value) (pc : BitVec 64) (i0 i1 i2 i3 i4 : Int) (a b k : BitVec 64) (w : World) (h : MB 74 42 w g v) (hp : v 35 = .int .u64 (U pc)) :
    Calls Tryz.prog 77 #[.pointer (some ⟨g, 0, none⟩), .agg #[.int .i64 i0, .int .i64 i1, .int .i64 i2, .int .i64 i3, .int .i64 i4], .int .u64 (U a), .int .u64 (U b), .int .u64 (U k)] w fun e w' => e = .returned (.int .u64 (U 0#64)) ∧ Goes g v pc k (decide (a = b)) w w' := by
  have hl := U_eq a b
  have HB := Aside0.mk (below_alloc (Below.refl w.heap.size w) (.cells #[.int .i64 i0, .int .i64 i1, .int .i64 i2, .int .i64 i3, .int .i64 i4] 42))
  have HG := Aside0.mk (goes g v pc k _ (h.below HB.out) hp (decide (a = b)))
  clear h hp
  go_enter Tryz.func77, Tryz.ntmps77
  go_wp2_with fail
  refine HG.out.mono ?_
  rintro e w1 ⟨rfl, hm, ho⟩
  have HM := Aside0.mk hm
  have HO := Aside0.mk (((Only.refl g w).below HB.out).then_ ho)
  clear hm ho HG hl
  go_wp2
  go_ret
  exact ⟨rfl, HM.out, HO.out⟩
set_option maxRecDepth 20000 in
theorem op_bne (g : Nat) (v : Nat → Value) (pc : BitVec 64) (i0 i1 i2 i3 i4 : Int) (a b k : BitVec 64) (w : World) (h : MB 74 42 w g v) (hp : v 35 = .int .u64 (U pc)) :
    Calls Tryz.prog 78 #[.pointer (some ⟨g, 0, none⟩), .agg #[.int .i64 i0, .int .i64 i1, .int .i64 i2, .int .i64 i3, .int .i64 i4], .int .u64 (U a), .int .u64 (U b), .int .u64 (U k)] w fun e w' => e = .returned (.int .u64 (U 0#64)) ∧ Goes g v pc k (!decide (a = b)) w w' := by
  have hl := U_ne a b
  have HB := Aside0.mk (below_alloc (Below.refl w.heap.size w) (.cells #[.int .i64 i0, .int .i64 i1, .int .i64 i2, .int .i64 i3, .int .i64 i4] 42))
  have HG := Aside0.mk (goes g v pc k _ (h.below HB.out) hp (!decide (a = b)))
  clear h hp
  go_enter Tryz.func78, Tryz.ntmps78
  go_wp2_with fail
  refine HG.out.mono ?_
  rintro e w1 ⟨rfl, hm, ho⟩
  have HM := Aside0.mk hm
  have HO := Aside0.mk (((Only.refl g w).below HB.out).then_ ho)
  clear hm ho HG hl
  go_wp2
  go_ret
  exact ⟨rfl, HM.out, HO.out⟩
set_option maxRecDepth 20000 in
theorem op_bltu (g : Nat) (v : Nat → Value) (pc : BitVec 64) (i0 i1 i2 i3 i4 : Int) (a b k : BitVec 64) (w : World) (h : MB 74 42 w g v) (hp : v 35 = .int .u64 (U pc)) :
    Calls Tryz.prog 79 #[.pointer (some ⟨g, 0, none⟩), .agg #[.int .i64 i0, .int .i64 i1, .int .i64 i2, .int .i64 i3, .int .i64 i4], .int .u64 (U a), .int .u64 (U b), .int .u64 (U k)] w fun e w' => e = .returned (.int .u64 (U 0#64)) ∧ Goes g v pc k (decide (a.toNat < b.toNat)) w w' := by
  have hl := U_lt' a b
  have HB := Aside0.mk (below_alloc (Below.refl w.heap.size w) (.cells #[.int .i64 i0, .int .i64 i1, .int .i64 i2, .int .i64 i3, .int .i64 i4] 42))
  have HG := Aside0.mk (goes g v pc k _ (h.below HB.out) hp (decide (a.toNat < b.toNat)))
  clear h hp
  go_enter Tryz.func79, Tryz.ntmps79
  go_wp2_with fail
  refine HG.out.mono ?_
  rintro e w1 ⟨rfl, hm, ho⟩
  have HM := Aside0.mk hm
  have HO := Aside0.mk (((Only.refl g w).below HB.out).then_ ho)
  clear hm ho HG hl
  go_wp2
  go_ret
  exact ⟨rfl, HM.out, HO.out⟩
set_option maxRecDepth 20000 in
theorem op_bgeu (g : Nat) (v : Nat → Value) (pc : BitVec 64) (i0 i1 i2 i3 i4 : Int) (a b k : BitVec 64) (w : World) (h : MB 74 42 w g v) (hp : v 35 = .int .u64 (U pc)) :
    Calls Tryz.prog 80 #[.pointer (some ⟨g, 0, none⟩), .agg #[.int .i64 i0, .int .i64 i1, .int .i64 i2, .int .i64 i3, .int .i64 i4], .int .u64 (U a), .int .u64 (U b), .int .u64 (U k)] w fun e w' => e = .returned (.int .u64 (U 0#64)) ∧ Goes g v pc k (decide (b.toNat ≤ a.toNat)) w w' := by
  have hl := U_ge a b
  have HB := Aside0.mk (below_alloc (Below.refl w.heap.size w) (.cells #[.int .i64 i0, .int .i64 i1, .int .i64 i2, .int .i64 i3, .int .i64 i4] 42))
  have HG := Aside0.mk (goes g v pc k _ (h.below HB.out) hp (decide (b.toNat ≤ a.toNat)))
  clear h hp
  go_enter Tryz.func80, Tryz.ntmps80
  go_wp2_with fail
  refine HG.out.mono ?_
  rintro e w1 ⟨rfl, hm, ho⟩
  have HM := Aside0.mk hm
  have HO := Aside0.mk (((Only.refl g w).below HB.out).then_ ho)
  clear hm ho HG hl
  go_wp2
  go_ret
  exact ⟨rfl, HM.out, HO.out⟩
set_option maxRecDepth 20000 in
theorem op_jal (g : Nat) (v : Nat → Value) (pc : BitVec 64) (i0 i1 i2 i3 i4 : Int) (a b k : BitVec 64) (w : World) (h : MB 74 42 w g v) (hp : v 35 = .int .u64 (U pc)) :
    Calls Tryz.prog 81 #[.pointer (some ⟨g, 0, none⟩), .agg #[.int .i64 i0, .int .i64 i1, .int .i64 i2, .int .i64 i3, .int .i64 i4], .int .u64 (U a), .int .u64 (U b), .int .u64 (U k)] w fun e w' => e = .returned (.int .u64 (U pc)) ∧ Goes g v pc k true w w' := by
  have HB := Aside0.mk (below_alloc (Below.refl w.heap.size w) (.cells #[.int .i64 i0, .int .i64 i1, .int .i64 i2, .int .i64 i3, .int .i64 i4] 42))
  have hc := ((h.below HB.out).cell 35 (by omega)).trans (congrArg some hp)
  have HG := Aside0.mk (goes g v pc k _ (h.below HB.out) hp true)
  clear h hp
  go_enter Tryz.func81, Tryz.ntmps81
  go_wp2_with fail
  refine HG.out.mono ?_
  rintro e w1 ⟨rfl, hm, ho⟩
  have HM := Aside0.mk hm
  have HO := Aside0.mk (((Only.refl g w).below HB.out).then_ ho)
  clear hm ho HG hc
  go_wp2
  go_ret
  exact ⟨rfl, HM.out, HO.out⟩
set_option maxRecDepth 20000 in
theorem op_jalr (g : Nat) (v : Nat → Value) (pc : BitVec 64) (i0 i1 i2 i3 i4 : Int) (a b k : BitVec 64) (w : World) (h : MB 74 42 w g v) (hp : v 35 = .int .u64 (U pc)) :
    Calls Tryz.prog 82 #[.pointer (some ⟨g, 0, none⟩), .agg #[.int .i64 i0, .int .i64 i1, .int .i64 i2, .int .i64 i3, .int .i64 i4], .int .u64 (U a), .int .u64 (U b), .int .u64 (U k)] w fun e w' => e = .returned (.int .u64 (U pc)) ∧ MB 74 42 w' g (atPc v ((a + k) &&& ~~~1#64)) ∧ Only g w w' := by
  have HB := Aside0.mk (below_alloc (Below.refl w.heap.size w) (.cells #[.int .i64 i0, .int .i64 i1, .int .i64 i2, .int .i64 i3, .int .i64 i4] 42))
  have hM := h.below HB.out
  have hc := (hM.cell 35 (by omega)).trans (congrArg some hp)
  have hf := hM.frozen 35
  have ha := addU a k
  have hn : Go.bits .andNot .u64 (U (a + k)) 1 = U ((a + k) &&& ~~~1#64) := andNot_U (a + k) 1#64
  have HM := Aside0.mk (atPc_set hM ((a + k) &&& ~~~1#64))
  have HO := Aside0.mk (((Only.refl g w).below HB.out).set 35 (.int .u64 (U ((a + k) &&& ~~~1#64))))
  clear h hp hM
  go_enter Tryz.func82, Tryz.ntmps82
  go_wp2
  go_ret
  exact ⟨rfl, HM.out, HO.out⟩
theorem quoU (a b : BitVec 64) (h : ¬ U (low b) = 0) : IntKind.u64.wrap (IntKind.u32.wrap (U (low a) / U (low b))) = U (BitVec.ofNat 64 ((low a).toNat / (low b).toNat)) := by
  have e : U (low a) / U (low b) = (((low a).toNat / (low b).toNat : Nat) : Int) := by unfold U; exact (Int.natCast_ediv _ _).symm
  have hq : (low a).toNat / (low b).toNat ≤ (low a).toNat := Nat.div_le_self _ _
  have hl : (low a).toNat < 4294967296 := by
    unfold Alu.low
    rw [BitVec.toNat_ofNat]
    omega
  rw [e]
  generalize (low a).toNat / (low b).toNat = q at hq
  unfold U
  rw [BitVec.toNat_ofNat]
  simp only [IntKind.wrap, IntKind.bits, IntKind.signed, Bool.false_and, Bool.false_eq_true, if_false]
  omega
set_option maxRecDepth 20000 in
theorem op_div_no (p : Value) (i0 i1 i2 i3 i4 : Int) (a b k : BitVec 64) (w : World) (h0 : U (low b) = 0) :
    Calls Tryz.prog 74 #[p, .agg #[.int .i64 i0, .int .i64 i1, .int .i64 i2, .int .i64 i3, .int .i64 i4], .int .u64 (U a), .int .u64 (U b), .int .u64 (U k)] w fun e w' => e = .panicked [{ v := .iface 95 (.agg #[.int .i64 8]), recovered := false }] ∧ Below w.heap.size w w' := by
  have hl := lowU b
  rw [h0] at hl
  have HB := Aside0.mk (below_alloc (Below.refl w.heap.size w) (.cells #[.int .i64 i0, .int .i64 i1, .int .i64 i2, .int .i64 i3, .int .i64 i4] 42))
  clear h0
  go_enter Tryz.func74, Tryz.ntmps74
  go_wp2
  exact ⟨rfl, rfl, HB.out⟩
set_option maxRecDepth 20000 in
theorem op_div_yes (p : Value) (i0 i1 i2 i3 i4 : Int) (a b k : BitVec 64) (w : World) (h0 : ¬ U (low b) = 0) :
    Calls Tryz.prog 74 #[p, .agg #[.int .i64 i0, .int .i64 i1, .int .i64 i2, .int .i64 i3, .int .i64 i4], .int .u64 (U a), .int .u64 (U b), .int .u64 (U k)] w fun e w' => e = .returned (.int .u64 (U (s32 (BitVec.ofNat 64 ((low a).toNat / (low b).toNat))))) ∧ Below w.heap.size w w' := by
  have hl := lowU b
  have hl2 := lowU a
  have hq := quoU a b h0
  have h0b : (U (low b) == 0) = false := by simpa using h0
  have HB := Aside0.mk (below_alloc (Below.refl w.heap.size w) (.cells #[.int .i64 i0, .int .i64 i1, .int .i64 i2, .int .i64 i3, .int .i64 i4] 42))
  go_enter Tryz.func74, Tryz.ntmps74
  go_wp2_with fail
  refine (w_calls (BitVec.ofNat 64 ((low a).toNat / (low b).toNat)) _).mono ?_
  rintro e w1 ⟨rfl, hb⟩
  have HB1 := Aside0.mk (below_step HB.out hb)
  clear hb
  go_wp2
  go_ret
  exact ⟨rfl, HB1.out⟩
end Go.Proofs.YtcgkgaibomcheaaGreat.Jump
end

section
/- The contract of the document's table of operations: 34 rows in new memory. No condition. -/
namespace Go.Proofs.YtcgkgaibomcheaaGreat.PRvemuRuns
open Go.RowKit Go.Proofs.YtcgkgaibomcheaaGreatW.PrintWords Go.Proofs.YtcgkgaibomcheaaGreatW.PrintLast Go.Proofs.YtcgkgaibomcheaaGreatW.PrintMore
attribute [local go_sem] max2_int min2_int max_two min_two max_three min_three max_four min_four   -- for this text's walks alone
set_option linter.unusedVariables false
set_option linter.unusedSimpArgs false
def ravelinref15_Rows.f  : Option ((List (S59))) := some (([(⟨1, 1, 55, 0, 0, (⟨#[108, 117, 105]⟩ : ByteArray)⟩ : S59), (⟨2, 2, 19, 0, 0, (⟨#[97, 100, 100, 105]⟩ : ByteArray)⟩ : S59), (⟨3, 2, 27, 0, 0, (⟨#[97, 100, 100, 105, 119]⟩ : ByteArray)⟩ : S59), (⟨6, 2, 19, 4, 0, (⟨#[120, 111, 114, 105]⟩ : ByteArray)⟩ : S59), (⟨5, 2, 19, 6, 0, (⟨#[111, 114, 105]⟩ : ByteArray)⟩ : S59), (⟨4, 2, 19, 7, 0, (⟨#[97, 110, 100, 105]⟩ : ByteArray)⟩ : S59), (⟨12, 2, 3, 2, 0, (⟨#[108, 119]⟩ : ByteArray)⟩ : S59), (⟨11, 2, 3, 3, 0, (⟨#[108, 100]⟩ : ByteArray)⟩ : S59), (⟨13, 2, 3, 6, 0, (⟨#[108, 119, 117]⟩ : ByteArray)⟩ : S59), (⟨34, 2, 103, 0, 0, (⟨#[106, 97, 108, 114]⟩ : ByteArray)⟩ : S59), (⟨7, 3, 19, 1, 0, (⟨#[115, 108, 108, 105]⟩ : ByteArray)⟩ : S59), (⟨8, 3, 19, 5, 0, (⟨#[115, 114, 108, 105]⟩ : ByteArray)⟩ : S59), (⟨9, 4, 27, 1, 0, (⟨#[115, 108, 108, 105, 119]⟩ : ByteArray)⟩ : S59), (⟨10, 4, 27, 5, 0, (⟨#[115, 114, 108, 105, 119]⟩ : ByteArray)⟩ : S59), (⟨15, 5, 35, 2, 0, (⟨#[115, 119]⟩ : ByteArray)⟩ : S59), (⟨14, 5, 35, 3, 0, (⟨#[115, 100]⟩ : ByteArray)⟩ : S59), (⟨16, 6, 51, 0, 0, (⟨#[97, 100, 100]⟩ : ByteArray)⟩ : S59), (⟨17, 6, 51, 0, 32, (⟨#[115, 117, 98]⟩ : ByteArray)⟩ : S59), (⟨21, 6, 51, 1, 0, (⟨#[115, 108, 108]⟩ : ByteArray)⟩ : S59), (⟨20, 6, 51, 4, 0, (⟨#[120, 111, 114]⟩ : ByteArray)⟩ : S59), (⟨22, 6, 51, 5, 0, (⟨#[115, 114, 108]⟩ : ByteArray)⟩ : S59), (⟨19, 6, 51, 6, 0, (⟨#[111, 114]⟩ : ByteArray)⟩ : S59), (⟨18, 6, 51, 7, 0, (⟨#[97, 110, 100]⟩ : ByteArray)⟩ : S59), (⟨23, 6, 59, 0, 0, (⟨#[97, 100, 100, 119]⟩ : ByteArray)⟩ : S59), (⟨24, 6, 59, 0, 32, (⟨#[115, 117, 98, 119]⟩ : ByteArray)⟩ : S59), (⟨27, 6, 59, 1, 0, (⟨#[115, 108, 108, 119]⟩ : ByteArray)⟩ : S59), (⟨28, 6, 59, 5, 0, (⟨#[115, 114, 108, 119]⟩ : ByteArray)⟩ : S59), (⟨25, 6, 59, 0, 1, (⟨#[109, 117, 108, 119]⟩ : ByteArray)⟩ : S59), (⟨26, 6, 59, 5, 1, (⟨#[100, 105, 118, 117, 119]⟩ : ByteArray)⟩ : S59), (⟨29, 7, 99, 0, 0, (⟨#[98, 101, 113]⟩ : ByteArray)⟩ : S59), (⟨30, 7, 99, 1, 0, (⟨#[98, 110, 101]⟩ : ByteArray)⟩ : S59), (⟨31, 7, 99, 6, 0, (⟨#[98, 108, 116, 117]⟩ : ByteArray)⟩ : S59), (⟨32, 7, 99, 7, 0, (⟨#[98, 103, 101, 117]⟩ : ByteArray)⟩ : S59), (⟨33, 8, 111, 0, 0, (⟨#[106, 97, 108]⟩ : ByteArray)⟩ : S59)] : List (S59)))
def rowsL : List S59 := ([(⟨1, 1, 55, 0, 0, (⟨#[108, 117, 105]⟩ : ByteArray)⟩ : S59), (⟨2, 2, 19, 0, 0, (⟨#[97, 100, 100, 105]⟩ : ByteArray)⟩ : S59), (⟨3, 2, 27, 0, 0, (⟨#[97, 100, 100, 105, 119]⟩ : ByteArray)⟩ : S59), (⟨6, 2, 19, 4, 0, (⟨#[120, 111, 114, 105]⟩ : ByteArray)⟩ : S59), (⟨5, 2, 19, 6, 0, (⟨#[111, 114, 105]⟩ : ByteArray)⟩ : S59), (⟨4, 2, 19, 7, 0, (⟨#[97, 110, 100, 105]⟩ : ByteArray)⟩ : S59), (⟨12, 2, 3, 2, 0, (⟨#[108, 119]⟩ : ByteArray)⟩ : S59), (⟨11, 2, 3, 3, 0, (⟨#[108, 100]⟩ : ByteArray)⟩ : S59), (⟨13, 2, 3, 6, 0, (⟨#[108, 119, 117]⟩ : ByteArray)⟩ : S59), (⟨34, 2, 103, 0, 0, (⟨#[106, 97, 108, 114]⟩ : ByteArray)⟩ : S59), (⟨7, 3, 19, 1, 0, (⟨#[115, 108, 108, 105]⟩ : ByteArray)⟩ : S59), (⟨8, 3, 19, 5, 0, (⟨#[115, 114, 108, 105]⟩ : ByteArray)⟩ : S59), (⟨9, 4, 27, 1, 0, (⟨#[115, 108, 108, 105, 119]⟩ : ByteArray)⟩ : S59), (⟨10, 4, 27, 5, 0, (⟨#[115, 114, 108, 105, 119]⟩ : ByteArray)⟩ : S59), (⟨15, 5, 35, 2, 0, (⟨#[115, 119]⟩ : ByteArray)⟩ : S59), (⟨14, 5, 35, 3, 0, (⟨#[115, 100]⟩ : ByteArray)⟩ : S59), (⟨16, 6, 51, 0, 0, (⟨#[97, 100, 100]⟩ : ByteArray)⟩ : S59), (⟨17, 6, 51, 0, 32, (⟨#[115, 117, 98]⟩ : ByteArray)⟩ : S59), (⟨21, 6, 51, 1, 0, (⟨#[115, 108, 108]⟩ : ByteArray)⟩ : S59), (⟨20, 6, 51, 4, 0, (⟨#[120, 111, 114]⟩ : ByteArray)⟩ : S59), (⟨22, 6, 51, 5, 0, (⟨#[115, 114, 108]⟩ : ByteArray)⟩ : S59), (⟨19, 6, 51, 6, 0, (⟨#[111, 114]⟩ : ByteArray)⟩ : S59), (⟨18, 6, 51, 7, 0, (⟨#[97, 110, 100]⟩ : ByteArray)⟩ : S59), (⟨23, 6, 59, 0, 0, (⟨#[97, 100, 100, 119]⟩ : ByteArray)⟩ : S59), (⟨24, 6, 59, 0, 32, (⟨#[115, 117, 98, 119]⟩ : ByteArray)⟩ : S59), (⟨27, 6, 59, 1, 0, (⟨#[115, 108, 108, 119]⟩ : ByteArray)⟩ : S59), (⟨28, 6, 59, 5, 0, (⟨#[115, 114, 108, 119]⟩ : ByteArray)⟩ : S59), (⟨25, 6, 59, 0, 1, (⟨#[109, 117, 108, 119]⟩ : ByteArray)⟩ : S59), (⟨26, 6, 59, 5, 1, (⟨#[100, 105, 118, 117, 119]⟩ : ByteArray)⟩ : S59), (⟨29, 7, 99, 0, 0, (⟨#[98, 101, 113]⟩ : ByteArray)⟩ : S59), (⟨30, 7, 99, 1, 0, (⟨#[98, 110, 101]⟩ : ByteArray)⟩ : S59), (⟨31, 7, 99, 6, 0, (⟨#[98, 108, 116, 117]⟩ : ByteArray)⟩ : S59), (⟨32, 7, 99, 7, 0, (⟨#[98, 103, 101, 117]⟩ : ByteArray)⟩ : S59), (⟨33, 8, 111, 0, 0, (⟨#[106, 97, 108]⟩ : ByteArray)⟩ : S59)] : List (S59))

def cells59 (x : S59) : List Value := [.int .i64 x.f0, .int .i64 x.f1, .int .u32 x.f2, .int .u32 x.f3, .int .u32 x.f4, .string x.f5]
theorem reps59 (w : World) (b : Nat) (ok : Nat → Prop) : ∀ xs : List S59, Reps (k59.M w b ok) 6 xs (xs.flatMap cells59)
  | [] => Reps.none _ _
  | x :: xs => Reps.c6 (k59_mkM _ _ _ x) (reps59 w b ok xs)
set_option maxHeartbeats 1000000 in
set_option maxRecDepth 100000 in
theorem ravelinref15_Rows.calls (r : List S59) (w : World) (h : ravelinref15_Rows.f = some r) :
    Calls Tryz.prog 47 #[] w fun e w' => ∃ v0_ : Value, e = .returned (v0_) ∧ Kd.R k59 59 w' w.heap.size (fun _ => True) v0_ r ∧ Below w.heap.size w w' := by
  obtain rfl : rowsL = r := Option.some.inj h
  clear h
  go_enter Tryz.func47, Tryz.ntmps47
  go_wp2_with (first | ((with_reducible refine gate_dst (N := 35) rfl ?_); refine Kd.R_lit k59 _ 59 ?hg (N := 35) ?hd (xs := rowsL) (inner := rowsL.flatMap cells59) (ok := fun _ => True) (okp := fun _ => True) ?hr ?hp (fun _ hk => hk) trivial (Below.refl _ _) (Nat.le_refl _) (by decide) ?_; (case hd => rfl); (case hg => rfl); (case hp => exact reps59 _ _ _ _); (case hr => kernel_rfl); (intro v1 w1 ho hb hx hy); clear hx hy; have HO := Aside0.mk ho; have HB := Aside0.mk hb; clear ho hb))
  go_ret
  exact ⟨_, rfl, HO.out, HB.out⟩
end Go.Proofs.YtcgkgaibomcheaaGreat.PRvemuRuns
end
