/- Joined out of this claim's texts: Args, Dec, Bits, PRvemuRunsx0, Alu, Mb, Jump, RowsOf15. Conditions: those of each theorem. -/
import Derived.Test.YtcgkgaibomcheaaGreatZC02
import Derived.ProofKit
import Derived.SizedLaws
import Derived.Lib.SmallJoins
import Derived.Deep.Slices
import Derived.Deep.Fields
import Derived.ChangeSame
import Derived.RowKit
import Derived.Test.YtcgkgaibomcheaaGreatProg
import Derived.Below
import Derived.Deep.Draws
import Derived.Deep.AppendLies
import Derived.Maps.AppendAt
import Derived.OwnWalk
import Derived.Laws.BytesArg
import Derived.Laws.MakeOwn
import Derived.Laws.OwnMore
import Derived.Deep.OwnRows
import Derived.Tactics
import Derived.Lib.ConvBytes
import Derived.Laws.Slices
import Derived.WalkKit
import Derived.KernelRfl
import Derived.RowKit3
import Derived.Deep.LoopGhost
import Derived.Deep.QuietTactic
import Derived.BigQuiet
import Derived.WideLaws
import Derived.Deep.DeepCutAuto
import Derived.Deep.CutBlock
import Derived.Deep.RegionHeld3
import Derived.Laws.Rows
import Derived.Lib.AppendStr
import Derived.ArgAppend
import Derived.Laws.IdiomCopy
import Derived.OrdersHeld
import Derived.Laws.BitsLemmas
import Derived.Test.YtcgkgaibomcheaaGreatZC01
set_option linter.unusedVariables false
set_option linter.unusedSimpArgs false
section
namespace Go.Proofs.YtcgkgaibomcheaaGreat.Args
open Go.ChangeShapes Go.WideShapes Go.RowKit Go.Deep Go.Joins YtcgkgaibomcheaaGreatW.PrintWords
theorem slice_reads {α : Type} {d : Kd α} {H : Type} {enc : TypeId × Value → H} {P : Program} {W : World} {t e : TypeId} {v : Value} {D : DataW H} {p : List MemPlace} {r : Reach}
    {ts : List TypeId} {ds : List (DataW H)} {j : Nat} (good : α → Prop)
    (hsz : (DataW.weightsEach P ts ds).all (· ≤ reachBytes) = true) (hts : ts[j]? = some t) (hds : ds[j]? = some D)
    (ht : P.underlying t = some (.slice e)) (hC : P.cellsOf e = d.sz)
    (el : ∀ (fuel : Nat) (cs : List Value) (x : DataW H × List MemPlace), DataW.trod enc P W 0 (fun _ => true) true fuel e cs = some x → ∃ y, d.K W y cs ∧ good y)
    (ho : Value.okWide P W r 0 t v) (h : DataW.Trod enc P W 0 (fun _ => true) true t v D p) :
    ∃ (A : Option Addr) (cap : Nat) (xs : List α), v = .slice A xs.length cap ∧ xs.length ≤ cap ∧ cap ≤ maxLen ∧ cap * P.bytesOf e ≤ reachBytes ∧ d.C W A xs.length xs ∧ (∀ x ∈ xs, good x) := by
  obtain ⟨a0, len0, cap0, rfl⟩ := okWide_slice ht ho
  obtain ⟨fuel, hf⟩ := h
  rcases open_slice ht hf with ⟨hcs, hx⟩ | ⟨a, len, cap, m, n, Df, Pl, hcs, hb, hl, hm, hmm, hx, hel⟩
  · simp [Value.cells] at hcs
    obtain ⟨rfl, rfl, rfl⟩ := hcs
    exact ⟨none, 0, [], rfl, Nat.le_refl _, by unfold maxLen; omega, by simp, Kd.C_nil d W, by simp⟩
  · simp [Value.cells] at hcs
    obtain ⟨rfl, rfl, rfl⟩ := hcs
    simp only [if_true] at hmm
    subst hmm
    have ex : ∀ i : Fin len0, ∃ y, good y ∧ ∃ cs', W.cells? 0 (a.add (i.1 * P.cellsOf e)) (P.cellsOf e) = some cs' ∧ d.K W y cs' := by
      intro i
      obtain ⟨cs', hc, htr⟩ := hel i.1 (by have := i.2; omega)
      obtain ⟨y, hk, hg⟩ := el _ _ _ htr
      exact ⟨y, hg, cs', hc, hk⟩
    have hD : D = .slice ((List.range len0).map Df) ((List.range (m - len0)).map fun j => Df (len0 + j)) := (Prod.mk.inj hx).1
    have hz := sized_slice hsz hts (by rw [hds, hD]) ht
    refine ⟨some a, m, List.ofFn fun i => Classical.choose (ex i), by simp, by simpa using hl, hm, ?_, ?_, ?_⟩
    · have e1 : ((List.range len0).map Df).length + ((List.range (m - len0)).map fun j => Df (len0 + j)).length = m := by simp; omega
      rwa [e1] at hz
    · refine ⟨by simp, by simp; unfold maxLen at hm; omega, fun _ => ⟨a, rfl, fun j q hj => ?_⟩⟩
      obtain ⟨hjl, hjq⟩ := List.getElem?_eq_some_iff.1 hj
      have hjl' : j < len0 := by simpa using hjl
      rw [List.getElem_ofFn] at hjq
      obtain ⟨_, cs', hc, hk⟩ := Classical.choose_spec (ex ⟨j, hjl'⟩)
      subst hjq
      obtain ⟨_, hcl, hat⟩ := World.cells?_some hc
      refine ⟨cs', by rw [hcl, hC], hk, fun i u hi => ?_⟩
      have hil : i < P.cellsOf e := by
        rw [← hcl]
        exact (List.getElem?_eq_some_iff.1 hi).1
      rw [← hC, ← Go.Deep.add_add, hat i hil, hi]
    · intro x hx
      obtain ⟨i, hi⟩ := (List.mem_ofFn).1 hx
      rw [← hi]
      exact (Classical.choose_spec (ex i)).1
theorem struct_cells {H : Type} {enc : TypeId × Value → H} {P : Program} {W : World} {base : Nat} {spare : Nat → Bool} {held : Bool} {t : TypeId} {fs : Array Field} {fuel : Nat} {cs : List Value} {x : DataW H × List MemPlace}
    (ht : P.underlying t = some (.struct fs)) (hone : oneCellFields P fs = true) (hC : P.cellsOf t = fs.size) (h : DataW.trod enc P W base spare held fuel t cs = some x) :
    cs.length = fs.size ∧ ∀ (j : Nat) (f : Field), fs[j]? = some f → ∃ (v : Value) (y : DataW H × List MemPlace) (n : Nat), cs[j]? = some v ∧ DataW.trod enc P W base spare held n f.type [v] = some y := by
  obtain ⟨ys, n, _, _, hlen, hyl, hf⟩ := DataW.trod_struct ht h
  refine ⟨hlen.trans hC, fun j f hj => ?_⟩
  obtain ⟨ho, hk⟩ := hone_of hone j f hj
  have hjl : j < fs.size := (Array.getElem?_eq_some_iff.1 hj).1
  have h1 := hf j f hj
  rw [ho, hk] at h1
  have hjc : j < cs.length := by omega
  have hone' : (cs.drop j).take 1 = [cs[j]'hjc] := by
    rw [List.drop_eq_getElem_cons hjc]
    rfl
  rw [hone'] at h1
  have hys : ys[j]? = some (ys[j]'(by omega)) := List.getElem?_eq_getElem (by omega)
  exact ⟨_, _, n, List.getElem?_eq_getElem hjc, h1.trans hys⟩
theorem int_cell {H : Type} {enc : TypeId × Value → H} {P : Program} {W : World} {base : Nat} {spare : Nat → Bool} {held : Bool} {fuel : Nat} {v : Value} {x : DataW H × List MemPlace} {t : TypeId} {k : IntKind}
    (ht : P.underlying t = some (.int k)) (h : DataW.trod enc P W base spare held fuel t [v] = some x) : ∃ n, v = .int k n ∧ (Lit.int k n).wf = true := by
  obtain ⟨n, e, _, hw⟩ := DataW.trod_int ht h
  exact ⟨n, (List.cons.inj e).1, hw⟩
theorem own_open {k : IntKind} {e base : Nat} {w : World} {ok : Nat → Prop} {v : Value} {xs : List Int} (h : Kd.R (Kd.int k) e w base ok v xs) (hne : 0 < xs.length) :
    ∃ (g cap : Nat) (cs : Array Value), v = .slice (some ⟨g, 0, none⟩) xs.length cap ∧ base ≤ g ∧ xs.length ≤ cap ∧ cap ≤ maxLen ∧ cs.size = cap ∧ w.heap[g]? = some (.cells cs e (0, 0)) ∧ ∀ j, j < xs.length → cs[j]? = some (.int k (xs.getD j 0)) := by
  obtain ⟨A, c, hv, hl, hr⟩ := Kd.R_reads h
  obtain ⟨inner, ho⟩ := Kd.R_own h
  rcases ho.2 with ⟨_, h0⟩ | ⟨g, cap, cur, he, hb, hh, h1, h2, h3, _⟩
  · omega
  · refine ⟨g, cap, cur, he, hb, h1, h2, ?_, hh, fun j hj => ?_⟩
    · have : (Kd.int k).sz = 1 := rfl
      rw [h3, this, Nat.mul_one]
    · rw [hv] at he
      injection he with ha
      subst ha
      have rr := Kd.reads_of_C (enc := Value.int k) (d := (0 : Int)) (h1 := fun _ => rfl) hr
      obtain ⟨ad, e1, hc⟩ := rr.2.2 hne
      injection e1 with e1
      subst e1
      have := hc j hj
      rw [Go.Proofs.YtcgkgaibomcheaaGreatW.PrintWords.add_plain] at this
      rw [← this]
      exact (blk_cell hh j).symm
end Go.Proofs.YtcgkgaibomcheaaGreat.Args
end

section
namespace Go.Proofs.YtcgkgaibomcheaaGreat.Dec
def formOf (n : Nat) : Nat := [0, 1, 2, 2, 2, 2, 2, 3, 3, 4, 4, 2, 2, 2, 5, 5, 6, 6, 6, 6, 6, 6, 6, 6, 6, 6, 6, 6, 6, 7, 7, 7, 7, 8, 2].getD n 0
def codeOf (n : Nat) : Nat := [0, 55, 19, 27, 19, 19, 19, 19, 19, 27, 27, 3, 3, 3, 35, 35, 51, 51, 51, 51, 51, 51, 51, 59, 59, 59, 59, 59, 59, 99, 99, 99, 99, 111, 103].getD n 0
def f3Of (n : Nat) : Nat := [0, 0, 0, 0, 7, 6, 4, 1, 5, 1, 5, 3, 2, 6, 3, 2, 0, 0, 7, 6, 4, 1, 5, 0, 0, 0, 5, 1, 5, 0, 1, 6, 7, 0, 0].getD n 0
def f7Of (n : Nat) : Nat := [0, 0, 0, 0, 0, 0, 0, 0, 0, 0, 0, 0, 0, 0, 0, 0, 0, 32, 0, 0, 0, 0, 0, 0, 32, 1, 1, 0, 0, 0, 0, 0, 0, 0, 0].getD n 0
def topOk (n w : Nat) : Bool := if formOf n = 6 then w / 33554432 == f7Of n else if formOf n = 3 then w / 67108864 == 0 else if formOf n = 4 then w / 33554432 == 0 else true
def midOk (n w : Nat) : Bool := if formOf n = 1 ∨ formOf n = 8 then true else w / 4096 % 8 == f3Of n
def hit (n w : Nat) : Bool := w % 128 == codeOf n && (midOk n w && topOk n w)
def fdOf (n w : Nat) : Nat := if formOf n = 5 ∨ formOf n = 7 then 0 else w / 128 % 32
def fs1Of (n w : Nat) : Nat := if formOf n = 1 ∨ formOf n = 8 then 0 else w / 32768 % 32
def fs2Of (n w : Nat) : Nat := if 5 ≤ formOf n ∧ formOf n ≤ 7 then w / 1048576 % 32 else 0
def immV (form w : Nat) : Nat :=
  if form = 1 then w / 4096 % 1048576 else if form = 2 then w / 1048576 % 4096 else if form = 3 then w / 1048576 % 64 else if form = 4 then w / 1048576 % 32 else
  if form = 5 then w / 128 % 32 + (w / 33554432 % 128) * 32 else
  if form = 7 then (w / 256 % 16) * 2 + (w / 33554432 % 64) * 32 + (w / 128 % 2) * 2048 + (w / 2147483648 % 2) * 4096 else
  if form = 8 then (w / 2097152 % 1024) * 2 + (w / 1048576 % 2) * 2048 + (w / 4096 % 256) * 4096 + (w / 2147483648 % 2) * 1048576 else 0
def sgn (half v : Nat) : Int := if v < half then (v : Int) else (v : Int) - 2 * half
def immOf (form w : Nat) : Int :=
  if form = 2 ∨ form = 5 then sgn 2048 (immV form w) else if form = 7 then sgn 4096 (immV form w) else if form = 8 then sgn 1048576 (immV form w) else (immV form w : Int)
def dec (w : Nat) : Option Nat := (List.range' 1 34).find? (fun n => hit n w)
def orderD : List Nat := [1, 2, 3, 6, 5, 4, 12, 11, 13, 34, 7, 8, 9, 10, 15, 14, 16, 17, 21, 20, 22, 19, 18, 23, 24, 27, 28, 25, 26, 29, 30, 31, 32, 33]
def clash (m n : Nat) : Bool := codeOf m != codeOf n || (formOf m != 1 && formOf m != 8 && formOf n != 1 && formOf n != 8 && f3Of m != f3Of n) || (formOf m == 6 && formOf n == 6 && f7Of m != f7Of n)
theorem clash_all : ∀ m : Fin 34, ∀ n : Fin 34, m = n ∨ clash (m.1 + 1) (n.1 + 1) = true := by decide +kernel
theorem clash_no {m n w : Nat} (hc : clash m n = true) (hm : hit m w = true) (hn : hit n w = true) : False := by
  unfold hit midOk topOk at hm hn
  unfold clash at hc
  simp only [Bool.and_eq_true, Bool.or_eq_true, beq_iff_eq, bne_iff_ne, ne_eq] at hm hn hc
  obtain ⟨h1, h2, h3⟩ := hm
  obtain ⟨k1, k2, k3⟩ := hn
  rcases hc with (hc | hc) | hc
  · omega
  · obtain ⟨⟨⟨⟨a1, a2⟩, a3⟩, a4⟩, a5⟩ := hc
    rw [if_neg (by omega)] at h2 k2
    simp only [beq_iff_eq] at h2 k2
    omega
  · obtain ⟨⟨a1, a2⟩, a3⟩ := hc
    rw [if_pos a1] at h3
    rw [if_pos a2] at k3
    simp only [beq_iff_eq] at h3 k3
    omega
theorem unique {m n w : Nat} (hm0 : 1 ≤ m) (hm1 : m ≤ 34) (hn0 : 1 ≤ n) (hn1 : n ≤ 34) (hm : hit m w = true) (hn : hit n w = true) : m = n := by
  rcases clash_all ⟨m - 1, by omega⟩ ⟨n - 1, by omega⟩ with h | h
  · have := congrArg Fin.val h
    simp only at this
    omega
  · simp only [show m - 1 + 1 = m by omega, show n - 1 + 1 = n by omega] at h
    exact (clash_no h hm hn).elim
theorem in_order : ∀ n ∈ orderD, 1 ≤ n ∧ n ≤ 34 := by decide
theorem order_has (n : Nat) (h0 : 1 ≤ n) (h1 : n ≤ 34) : n ∈ orderD := by
  have h : ∀ k : Fin 34, (k.1 + 1) ∈ orderD := by decide
  have := h ⟨n - 1, by omega⟩
  simpa [show n - 1 + 1 = n by omega] using this
theorem dec_yes {n w : Nat} (h0 : 1 ≤ n) (h1 : n ≤ 34) (h : hit n w = true) : dec w = some n := by
  unfold dec
  cases e : (List.range' 1 34).find? (fun n => hit n w) with
  | none => 
    have := List.find?_eq_none.1 e n (by rw [List.mem_range'_1]; omega)
    exact absurd h this
  | some m =>
    have hm := List.find?_some e
    have hin := List.mem_of_find?_eq_some e
    rw [List.mem_range'_1] at hin
    rw [unique (by omega) (by omega) h0 h1 hm h]
theorem dec_no {w : Nat} (h : ∀ n, 1 ≤ n → n ≤ 34 → hit n w = false) : dec w = none := by
  unfold dec
  rw [List.find?_eq_none]
  intro n hn
  rw [List.mem_range'_1] at hn
  rw [h n (by omega) (by omega)]
  simp
theorem dec_no_order {w : Nat} (h : ∀ i : Nat, i < 34 → hit (orderD.getD i 0) w = false) : dec w = none := by
  refine dec_no fun n h0 h1 => ?_
  obtain ⟨i, hi, e⟩ := List.getElem_of_mem (order_has n h0 h1)
  have := h i hi
  rw [List.getD_eq_getElem?_getD, List.getElem?_eq_getElem hi, e] at this
  exact this
theorem dec_some {w n : Nat} (h : dec w = some n) : 1 ≤ n ∧ n ≤ 34 ∧ hit n w = true := by
  unfold dec at h
  have hm := List.find?_some h
  have hin := List.mem_of_find?_eq_some h
  rw [List.mem_range'_1] at hin
  exact ⟨by omega, by omega, hm⟩
theorem rd_lt (n w : Nat) : fdOf n w < 32 := by unfold fdOf; split <;> omega
theorem rs1_lt (n w : Nat) : fs1Of n w < 32 := by unfold fs1Of; split <;> omega
theorem rs2_lt (n w : Nat) : fs2Of n w < 32 := by unfold fs2Of; split <;> omega
end Go.Proofs.YtcgkgaibomcheaaGreat.Dec
end

section
namespace Go.Proofs.YtcgkgaibomcheaaGreat.Bits
open Go.RowKit YtcgkgaibomcheaaGreatW.PrintWords YtcgkgaibomcheaaGreatW.PrintLast YtcgkgaibomcheaaGreatW.PrintMore
def U (x : BitVec 64) : Int := (x.toNat : Int)
theorem U_nonneg (x : BitVec 64) : 0 ≤ U x := by unfold U; omega
theorem U_lt (x : BitVec 64) : U x < 18446744073709551616 := by unfold U; have := x.isLt; omega
theorem U_inj {x y : BitVec 64} (h : U x = U y) : x = y := by
  unfold U at h; exact BitVec.eq_of_toNat_eq (by omega)
theorem ofInt_U (x : BitVec 64) : BitVec.ofInt 64 (U x) = x := by
  apply BitVec.eq_of_toNat_eq
  have := x.isLt
  unfold U
  rw [BitVec.toNat_ofInt]
  omega
theorem wrapU (z : Int) : IntKind.u64.wrap z = U (BitVec.ofInt 64 z) := by
  unfold U
  rw [BitVec.toNat_ofInt]
  simp only [IntKind.wrap, IntKind.bits, IntKind.signed, Bool.false_and, Bool.false_eq_true, if_false]
  omega
theorem wrapU_U (x : BitVec 64) : IntKind.u64.wrap (U x) = U x := by rw [wrapU, ofInt_U]
theorem wrap64_U (x : BitVec 64) : wrap64 (U x) = x.toInt := by
  have := x.isLt
  rw [BitVec.toInt_eq_toNat_cond]
  unfold wrap64 U
  split <;> omega
theorem wrapU_toInt (x : BitVec 64) : IntKind.u64.wrap x.toInt = U x := by
  rw [wrapU, BitVec.ofInt_toInt]
theorem and_U (x y : BitVec 64) : Go.bits .and .u64 (U x) (U y) = U (x &&& y) := by
  show IntKind.u64.wrap (((BitVec.ofInt 64 (U x) &&& BitVec.ofInt 64 (U y)).toNat : Nat) : Int) = _
  rw [ofInt_U, ofInt_U]; exact wrapU_U _
theorem or_U (x y : BitVec 64) : Go.bits .or .u64 (U x) (U y) = U (x ||| y) := by
  show IntKind.u64.wrap (((BitVec.ofInt 64 (U x) ||| BitVec.ofInt 64 (U y)).toNat : Nat) : Int) = _
  rw [ofInt_U, ofInt_U]; exact wrapU_U _
theorem xor_U (x y : BitVec 64) : Go.bits .xor .u64 (U x) (U y) = U (x ^^^ y) := by
  show IntKind.u64.wrap (((BitVec.ofInt 64 (U x) ^^^ BitVec.ofInt 64 (U y)).toNat : Nat) : Int) = _
  rw [ofInt_U, ofInt_U]; exact wrapU_U _
theorem andNot_U (x y : BitVec 64) : Go.bits .andNot .u64 (U x) (U y) = U (x &&& ~~~y) := by
  show IntKind.u64.wrap (((BitVec.ofInt 64 (U x) &&& ~~~BitVec.ofInt 64 (U y)).toNat : Nat) : Int) = _
  rw [ofInt_U, ofInt_U]; exact wrapU_U _
theorem shl_U (x : BitVec 64) (n : Int) : shl .u64 (U x) n = U (x <<< n.toNat) := by
  unfold shl
  rw [wrapU]
  congr 1
  apply BitVec.eq_of_toNat_eq
  rw [BitVec.toNat_ofInt, BitVec.toNat_shiftLeft, Nat.shiftLeft_eq]
  unfold U
  have e : ((x.toNat : Int) * 2 ^ min n.toNat IntKind.u64.bits) = ((x.toNat * 2 ^ min n.toNat 64 : Nat) : Int) := by
    simp [IntKind.bits]
  rw [e]
  have e2 : ((2 ^ 64 : Nat) : Int) = (2:Int) ^ 64 := by simp
  rw [← Int.natCast_emod, Int.toNat_natCast]
  by_cases h : n.toNat ≤ 64
  · rw [Nat.min_eq_left h]
  · rw [Nat.min_eq_right (by omega)]
    have : 2 ^ n.toNat = 2 ^ 64 * 2 ^ (n.toNat - 64) := by rw [← Nat.pow_add]; congr 1; omega
    rw [this, Nat.mul_mod_left, ← Nat.mul_assoc, Nat.mul_right_comm, Nat.mul_mod_left]
theorem shr_U (x : BitVec 64) (n : Int) : shr .u64 (U x) n = U (x >>> n.toNat) := by
  unfold shr U
  rw [BitVec.toNat_ushiftRight, Nat.shiftRight_eq_div_pow]
  have e : ((2:Int) ^ min n.toNat IntKind.u64.bits) = ((2 ^ min n.toNat 64 : Nat) : Int) := by simp [IntKind.bits]
  rw [e, ← Int.natCast_ediv]
  congr 1
  by_cases h : n.toNat ≤ 64
  · rw [Nat.min_eq_left h]
  · rw [Nat.min_eq_right (by omega), Nat.div_eq_of_lt (by have := x.isLt; omega), Nat.div_eq_of_lt]
    have : 2 ^ n.toNat = 2 ^ 64 * 2 ^ (n.toNat - 64) := by rw [← Nat.pow_add]; congr 1; omega
    have h1 : 0 < 2 ^ (n.toNat - 64) := Nat.pow_pos (by decide)
    rw [this]
    exact Nat.lt_of_lt_of_le x.isLt (Nat.le_mul_of_pos_right _ h1)
theorem sar_U (x : BitVec 64) (n : Int) (h : n.toNat ≤ 64) : shr .i64 x.toInt n = (x.sshiftRight n.toNat).toInt := by
  unfold shr
  rw [BitVec.toInt_sshiftRight, Int.shiftRight_eq_div_pow]
  show x.toInt / 2 ^ min n.toNat 64 = _
  rw [Nat.min_eq_left h]
  simp
def low (n : Int) : BitVec 64 := BitVec.ofNat 64 (2 ^ min n.toNat 64 - 1)
theorem low_at (n : Int) (j : Nat) (hj : j < 64) : (low n).getLsbD j = decide ((j : Int) < n) := by
  unfold low
  rw [BitVec.getLsbD_ofNat]
  simp only [hj, decide_true, Bool.true_and, Nat.testBit_two_pow_sub_one]
  congr 1
  apply propext
  omega
theorem low_one (n : Int) (h0 : 0 ≤ n) (h : n ≤ 63) : IntKind.u64.wrap (shl .u64 1 n - 1) = U (low n) := by
  have e1 : (1 : Int) = U 1#64 := by decide
  rw [e1, shl_U, ← e1, wrapU]
  congr 1
  apply BitVec.eq_of_toNat_eq
  unfold low U
  rw [BitVec.toNat_ofInt, BitVec.toNat_shiftLeft, Nat.min_eq_left (by omega), Nat.shiftLeft_eq]
  have h2 : 2 ^ n.toNat < 2 ^ 64 := Nat.pow_lt_pow_right (by decide) (by omega)
  have h3 : 0 < 2 ^ n.toNat := Nat.pow_pos (by decide)
  have e3 : (1#64).toNat = 1 := rfl
  rw [e3, Nat.one_mul, Nat.mod_eq_of_lt h2, BitVec.toNat_ofNat, Nat.mod_eq_of_lt (by omega)]
  omega
theorem one_at (j : Nat) : (1#64).getLsbD j = decide (j = 0) := by
  rw [BitVec.getLsbD_one]; simp
theorem bit_at (v : BitVec 64) (a b j : Nat) (hj : j < 64) : (((v >>> a) &&& 1#64) <<< b).getLsbD j = (decide (j = b) && v.getLsbD a) := by
  rw [BitVec.getLsbD_shiftLeft, BitVec.getLsbD_and, BitVec.getLsbD_ushiftRight, one_at]
  by_cases h : j < b
  · simp [h, hj]; omega
  · by_cases h2 : j = b
    · subst h2; simp [hj]
    · have : ¬ (j - b = 0) := by omega
      simp [h, hj, h2, this]
def sx (v : BitVec 64) (n : Int) : BitVec 64 := if n < 1 then 0#64 else (v <<< (64 - min n.toNat 64)).sshiftRight (64 - min n.toNat 64)
theorem sx_at (v : BitVec 64) (n : Int) (h1 : 1 ≤ n) (h2 : n ≤ 64) (j : Nat) (hj : j < 64) : (sx v n).getLsbD j = v.getLsbD (if (j : Int) < n then j else n.toNat - 1) := by
  unfold sx
  rw [if_neg (by omega), BitVec.getLsbD_sshiftRight, Nat.min_eq_left (by omega)]
  have hn : ¬ 64 ≤ j := by omega
  simp only [hn, decide_false, Bool.not_false, Bool.true_and]
  by_cases h : (j : Int) < n
  · rw [if_pos (by omega), if_pos h, BitVec.getLsbD_shiftLeft]
    have a1 : 64 - n.toNat + j < 64 := by omega
    have a2 : ¬ (64 - n.toNat + j < 64 - n.toNat) := by omega
    have a3 : 64 - n.toNat + j - (64 - n.toNat) = j := by omega
    simp only [a1, a2, a3, decide_true, decide_false, Bool.not_false, Bool.true_and]
  · rw [if_neg (by omega), if_neg h, BitVec.msb_eq_getLsbD_last, BitVec.getLsbD_shiftLeft]
    have a2 : ¬ (64 - 1 < 64 - n.toNat) := by omega
    have a3 : 64 - 1 - (64 - n.toNat) = n.toNat - 1 := by omega
    simp only [a2, a3, decide_false, Bool.not_false]
    simp
theorem sx_full (v : BitVec 64) (n : Int) (h : 64 ≤ n) : sx v n = v := by
  unfold sx
  rw [if_neg (by omega), Nat.min_eq_right (by omega)]
  simp
theorem sx_none (v : BitVec 64) (n : Int) (h : n < 1) : sx v n = 0#64 := by
  unfold sx
  rw [if_pos h]
def zx (v : BitVec 64) (n : Int) : BitVec 64 := v &&& low n
theorem zx_at (v : BitVec 64) (n : Int) (j : Nat) (hj : j < 64) : (zx v n).getLsbD j = (decide ((j : Int) < n) && v.getLsbD j) := by
  unfold zx
  rw [BitVec.getLsbD_and, low_at n j hj, Bool.and_comm]
def bs (v : BitVec 64) (lo n : Int) : BitVec 64 := if lo < 0 then 0#64 else if lo > 63 then 0#64 else zx (v >>> lo.toNat) n
theorem bs_at (v : BitVec 64) (lo n : Int) (h0 : 0 ≤ lo) (h1 : lo ≤ 63) (j : Nat) (hj : j < 64) : (bs v lo n).getLsbD j = (decide ((j : Int) < n) && v.getLsbD (lo.toNat + j)) := by
  unfold bs
  rw [if_neg (by omega), if_neg (by omega), zx_at _ _ _ hj, BitVec.getLsbD_ushiftRight]
theorem ext64 {x y : BitVec 64} (h : ∀ j, j < 64 → x.getLsbD j = y.getLsbD j) : x = y := BitVec.eq_of_getLsbD_eq fun j hj => h j hj
end Go.Proofs.YtcgkgaibomcheaaGreat.Bits
end

section
namespace Go.Proofs.YtcgkgaibomcheaaGreat.PRvemuRuns
open Go.RowKit YtcgkgaibomcheaaGreatW.PrintWords YtcgkgaibomcheaaGreatW.PrintLast YtcgkgaibomcheaaGreatW.PrintMore
attribute [local go_sem] max2_int min2_int max_two min_two max_three min_three max_four min_four
def errW : Option Int → Value
  | none => .nilIface
  | some c => .iface 0 (.int .i64 c)
theorem errW_none : errW none = .nilIface := rfl
theorem errW_some (c : Int) : errW (some c) = .iface 0 (.int .i64 c) := rfl
theorem info5 : (Tryz.prog.info? 5).map (fun i => (i.zero, i.size, i.bytes)) = some (some (.int .u8 0), 1, 1) := by kernel_rfl
structure S59 where
  f0 : Int
  f1 : Int
  f2 : Int
  f3 : Int
  f4 : Int
  f5 : ByteArray
def z59 : S59 := ⟨(0 : Int), (0 : Int), (0 : Int), (0 : Int), (0 : Int), (⟨#[]⟩ : ByteArray)⟩
def k59 : Kd S59 := Kd.iso (Kd.pair (Kd.int .i64) (Kd.pair (Kd.int .i64) (Kd.pair (Kd.int .u32) (Kd.pair (Kd.int .u32) (Kd.pair (Kd.int .u32) Kd.string))))) (fun x : S59 => (x.f0, x.f1, x.f2, x.f3, x.f4, x.f5))
theorem k59_open {w : World} {x : S59} {cs : List Value} (h : k59.K w x cs) : cs = [.int .i64 x.f0, .int .i64 x.f1, .int .u32 x.f2, .int .u32 x.f3, .int .u32 x.f4, .string x.f5] := by
  obtain ⟨_, _, rfl, rfl, ⟨_, _, rfl, rfl, ⟨_, _, rfl, rfl, ⟨_, _, rfl, rfl, ⟨_, _, rfl, rfl, rfl⟩⟩⟩⟩⟩ := h
  exact rfl
theorem k59_mkM (w : World) (base : Nat) (ok : Nat → Prop) (x : S59)  : k59.M w base ok x [.int .i64 x.f0, .int .i64 x.f1, .int .u32 x.f2, .int .u32 x.f3, .int .u32 x.f4, .string x.f5] := ⟨[.int .i64 x.f0], [.int .i64 x.f1, .int .u32 x.f2, .int .u32 x.f3, .int .u32 x.f4, .string x.f5], rfl, rfl, ⟨[.int .i64 x.f1], [.int .u32 x.f2, .int .u32 x.f3, .int .u32 x.f4, .string x.f5], rfl, rfl, ⟨[.int .u32 x.f2], [.int .u32 x.f3, .int .u32 x.f4, .string x.f5], rfl, rfl, ⟨[.int .u32 x.f3], [.int .u32 x.f4, .string x.f5], rfl, rfl, ⟨[.int .u32 x.f4], [.string x.f5], rfl, rfl, rfl⟩⟩⟩⟩⟩
def rd_T59 (xs : List S59) (i : Int) : S59 := xs.getD i.toNat z59
theorem at_T59 {w : World} {A : Option Addr} {n : Nat} {xs : List S59} (h : Kd.C k59 w A n xs) (i : Int) (h0 : 0 ≤ i) (h1 : i < n) : ∃ ad , A = some ad ∧ w.cell? (ad.add (i.toNat * 6)) = some (.int .i64 (rd_T59 xs i).f0) ∧ w.cell? ⟨(ad.add (i.toNat * 6)).block, (ad.add (i.toNat * 6)).off + 1, none⟩ = some (.int .i64 (rd_T59 xs i).f1) ∧ w.cell? ⟨(ad.add (i.toNat * 6)).block, (ad.add (i.toNat * 6)).off + 2, none⟩ = some (.int .u32 (rd_T59 xs i).f2) ∧ w.cell? ⟨(ad.add (i.toNat * 6)).block, (ad.add (i.toNat * 6)).off + 3, none⟩ = some (.int .u32 (rd_T59 xs i).f3) ∧ w.cell? ⟨(ad.add (i.toNat * 6)).block, (ad.add (i.toNat * 6)).off + 4, none⟩ = some (.int .u32 (rd_T59 xs i).f4) ∧ w.cell? ⟨(ad.add (i.toNat * 6)).block, (ad.add (i.toNat * 6)).off + 5, none⟩ = some (.string (rd_T59 xs i).f5) := by
  obtain ⟨ad, c, e, _, hK, hc0⟩ := Kd.C_get h z59 i h0 h1
  have hc : ∀ j u, c[j]? = some u → w.cell? (ad.add (i.toNat * 6 + j)) = some u := hc0
  obtain rfl := k59_open hK
  exact ⟨ad, e, hc 0 _ rfl, by rw [← add_field _ _ 1 (by omega)]; exact hc 1 _ rfl, by rw [← add_field _ _ 2 (by omega)]; exact hc 2 _ rfl, by rw [← add_field _ _ 3 (by omega)]; exact hc 3 _ rfl, by rw [← add_field _ _ 4 (by omega)]; exact hc 4 _ rfl, by rw [← add_field _ _ 5 (by omega)]; exact hc 5 _ rfl⟩
structure S42 where
  f0 : Int
  f1 : Int
  f2 : Int
  f3 : Int
  f4 : Int
def z42 : S42 := ⟨(0 : Int), (0 : Int), (0 : Int), (0 : Int), (0 : Int)⟩
def k42 : Kd S42 := Kd.iso (Kd.pair (Kd.int .i64) (Kd.pair (Kd.int .i64) (Kd.pair (Kd.int .i64) (Kd.pair (Kd.int .i64) (Kd.int .i64))))) (fun x : S42 => (x.f0, x.f1, x.f2, x.f3, x.f4))
theorem k42_open {w : World} {x : S42} {cs : List Value} (h : k42.K w x cs) : cs = [.int .i64 x.f0, .int .i64 x.f1, .int .i64 x.f2, .int .i64 x.f3, .int .i64 x.f4] := by
  obtain ⟨_, _, rfl, rfl, ⟨_, _, rfl, rfl, ⟨_, _, rfl, rfl, ⟨_, _, rfl, rfl, rfl⟩⟩⟩⟩ := h
  exact rfl
theorem k42_mk (w : World) (x : S42)  : k42.K w x [.int .i64 x.f0, .int .i64 x.f1, .int .i64 x.f2, .int .i64 x.f3, .int .i64 x.f4] := ⟨[.int .i64 x.f0], [.int .i64 x.f1, .int .i64 x.f2, .int .i64 x.f3, .int .i64 x.f4], rfl, rfl, ⟨[.int .i64 x.f1], [.int .i64 x.f2, .int .i64 x.f3, .int .i64 x.f4], rfl, rfl, ⟨[.int .i64 x.f2], [.int .i64 x.f3, .int .i64 x.f4], rfl, rfl, ⟨[.int .i64 x.f3], [.int .i64 x.f4], rfl, rfl, rfl⟩⟩⟩⟩
theorem k42_mkM (w : World) (base : Nat) (ok : Nat → Prop) (x : S42)  : k42.M w base ok x [.int .i64 x.f0, .int .i64 x.f1, .int .i64 x.f2, .int .i64 x.f3, .int .i64 x.f4] := ⟨[.int .i64 x.f0], [.int .i64 x.f1, .int .i64 x.f2, .int .i64 x.f3, .int .i64 x.f4], rfl, rfl, ⟨[.int .i64 x.f1], [.int .i64 x.f2, .int .i64 x.f3, .int .i64 x.f4], rfl, rfl, ⟨[.int .i64 x.f2], [.int .i64 x.f3, .int .i64 x.f4], rfl, rfl, ⟨[.int .i64 x.f3], [.int .i64 x.f4], rfl, rfl, rfl⟩⟩⟩⟩
def rd_T42 (xs : List S42) (i : Int) : S42 := xs.getD i.toNat z42
theorem at_T42 {w : World} {A : Option Addr} {n : Nat} {xs : List S42} (h : Kd.C k42 w A n xs) (i : Int) (h0 : 0 ≤ i) (h1 : i < n) : ∃ ad , A = some ad ∧ w.cell? (ad.add (i.toNat * 5)) = some (.int .i64 (rd_T42 xs i).f0) ∧ w.cell? ⟨(ad.add (i.toNat * 5)).block, (ad.add (i.toNat * 5)).off + 1, none⟩ = some (.int .i64 (rd_T42 xs i).f1) ∧ w.cell? ⟨(ad.add (i.toNat * 5)).block, (ad.add (i.toNat * 5)).off + 2, none⟩ = some (.int .i64 (rd_T42 xs i).f2) ∧ w.cell? ⟨(ad.add (i.toNat * 5)).block, (ad.add (i.toNat * 5)).off + 3, none⟩ = some (.int .i64 (rd_T42 xs i).f3) ∧ w.cell? ⟨(ad.add (i.toNat * 5)).block, (ad.add (i.toNat * 5)).off + 4, none⟩ = some (.int .i64 (rd_T42 xs i).f4) := by
  obtain ⟨ad, c, e, _, hK, hc0⟩ := Kd.C_get h z42 i h0 h1
  have hc : ∀ j u, c[j]? = some u → w.cell? (ad.add (i.toNat * 5 + j)) = some u := hc0
  obtain rfl := k42_open hK
  exact ⟨ad, e, hc 0 _ rfl, by rw [← add_field _ _ 1 (by omega)]; exact hc 1 _ rfl, by rw [← add_field _ _ 2 (by omega)]; exact hc 2 _ rfl, by rw [← add_field _ _ 3 (by omega)]; exact hc 3 _ rfl, by rw [← add_field _ _ 4 (by omega)]; exact hc 4 _ rfl⟩
structure S54 where
  f0 : Bool
  f1 : Int
  f2 : Int
def z54 : S54 := ⟨false, (0 : Int), (0 : Int)⟩
def k54 : Kd S54 := Kd.iso (Kd.pair Kd.bool (Kd.pair (Kd.int .u64) (Kd.int .i64))) (fun x : S54 => (x.f0, x.f1, x.f2))
theorem k54_open {w : World} {x : S54} {cs : List Value} (h : k54.K w x cs) : cs = [.bool x.f0, .int .u64 x.f1, .int .i64 x.f2] := by
  obtain ⟨_, _, rfl, rfl, ⟨_, _, rfl, rfl, rfl⟩⟩ := h
  exact rfl
theorem k54_mkM (w : World) (base : Nat) (ok : Nat → Prop) (x : S54)  : k54.M w base ok x [.bool x.f0, .int .u64 x.f1, .int .i64 x.f2] := ⟨[.bool x.f0], [.int .u64 x.f1, .int .i64 x.f2], rfl, rfl, ⟨[.int .u64 x.f1], [.int .i64 x.f2], rfl, rfl, rfl⟩⟩
def rd_T54 (xs : List S54) (i : Int) : S54 := xs.getD i.toNat z54
theorem at_T54 {w : World} {A : Option Addr} {n : Nat} {xs : List S54} (h : Kd.C k54 w A n xs) (i : Int) (h0 : 0 ≤ i) (h1 : i < n) : ∃ ad , A = some ad ∧ w.cell? (ad.add (i.toNat * 3)) = some (.bool (rd_T54 xs i).f0) ∧ w.cell? ⟨(ad.add (i.toNat * 3)).block, (ad.add (i.toNat * 3)).off + 1, none⟩ = some (.int .u64 (rd_T54 xs i).f1) ∧ w.cell? ⟨(ad.add (i.toNat * 3)).block, (ad.add (i.toNat * 3)).off + 2, none⟩ = some (.int .i64 (rd_T54 xs i).f2) := by
  obtain ⟨ad, c, e, _, hK, hc0⟩ := Kd.C_get h z54 i h0 h1
  have hc : ∀ j u, c[j]? = some u → w.cell? (ad.add (i.toNat * 3 + j)) = some u := hc0
  obtain rfl := k54_open hK
  exact ⟨ad, e, hc 0 _ rfl, by rw [← add_field _ _ 1 (by omega)]; exact hc 1 _ rfl, by rw [← add_field _ _ 2 (by omega)]; exact hc 2 _ rfl⟩
end Go.Proofs.YtcgkgaibomcheaaGreat.PRvemuRuns
end

section
namespace Go.Proofs.YtcgkgaibomcheaaGreat.Alu
open Go.RowKit Bits YtcgkgaibomcheaaGreatW.PrintWords YtcgkgaibomcheaaGreatW.PrintLast YtcgkgaibomcheaaGreatW.PrintMore
def s32 (v : BitVec 64) : BitVec 64 := sx v 32
def low (v : BitVec 64) : BitVec 64 := BitVec.ofNat 64 (v.toNat % 4294967296)
theorem low_U (v : BitVec 64) : U (low v) = U v % 4294967296 := by
  unfold U low
  rw [BitVec.toNat_ofNat]
  omega
theorem addU (a b : BitVec 64) : IntKind.u64.wrap (U a + U b) = U (a + b) := by
  rw [wrapU]
  unfold U
  rw [← Int.natCast_add, BitVec.ofInt_natCast, BitVec.ofNat_add, BitVec.ofNat_toNat, BitVec.ofNat_toNat, BitVec.setWidth_eq, BitVec.setWidth_eq]
theorem mulU (a b : BitVec 64) : IntKind.u64.wrap (U a * U b) = U (a * b) := by
  rw [wrapU]
  unfold U
  rw [← Int.natCast_mul, BitVec.ofInt_natCast, BitVec.ofNat_mul, BitVec.ofNat_toNat, BitVec.ofNat_toNat, BitVec.setWidth_eq, BitVec.setWidth_eq]
theorem subU (a b : BitVec 64) : IntKind.u64.wrap (U a - U b) = U (a - b) := by
  simp only [IntKind.wrap, IntKind.bits, IntKind.signed, Bool.false_and, Bool.false_eq_true, if_false]
  unfold U
  rw [BitVec.toNat_sub]
  have := a.isLt; have := b.isLt
  omega
theorem toNatU (v : BitVec 64) : (U v).toNat = v.toNat := by unfold U; exact Int.toNat_natCast _
theorem shlU (a k : BitVec 64) : IntKind.u64.wrap (U a * 2 ^ min (U k).toNat 64) = U (a <<< k.toNat) := by
  have h := shl_U a (U k)
  rw [toNatU] at h
  exact h
theorem shrU (a k : BitVec 64) : U a / 2 ^ min (U k).toNat 64 = U (a >>> k.toNat) := by
  have h := shr_U a (U k)
  rw [toNatU] at h
  exact h
theorem shl12 (k : BitVec 64) : IntKind.u64.wrap (U k * 4096) = U (k <<< 12) := shl_U k 12
theorem s32W (v : BitVec 64) (h : IntKind.u64.wrap (IntKind.i32.wrap (U v)) = U (s32 v)) : IntKind.u64.wrap (wrap64 (wrap32 (U v))) = U (s32 v) := by
  have e : wrap64 (wrap32 (U v)) = IntKind.i32.wrap (U v) := by
    unfold wrap64 wrap32
    simp only [IntKind.wrap, IntKind.bits, IntKind.signed, Bool.true_and]
    have := U_nonneg v
    split <;> simp_all <;> omega
  rw [e, h]
theorem lowU (v : BitVec 64) : U v % 4294967296 = U (low v) := (low_U v).symm
theorem and63 (b : BitVec 64) : Go.bits .and .u64 (U b) 63 = U (b &&& 63#64) := and_U b 63#64
theorem and31 (b : BitVec 64) : Go.bits .and .u64 (U b) 31 = U (b &&& 31#64) := and_U b 31#64
theorem s32_U (v : BitVec 64) : IntKind.u64.wrap (IntKind.i32.wrap (U v)) = U (s32 v) := by
  have e : (sx v 32).toInt = IntKind.i32.wrap (U v) := by
    unfold sx
    rw [if_neg (by omega)]
    have hn : 64 - min (Int.toNat 32) 64 = 32 := by decide
    rw [hn, BitVec.toInt_sshiftRight, Int.shiftRight_eq_div_pow, BitVec.toInt_eq_toNat_cond, BitVec.toNat_shiftLeft, Nat.shiftLeft_eq]
    simp only [IntKind.wrap, IntKind.bits, IntKind.signed, Bool.true_and]
    unfold U
    have := v.isLt
    split <;> split <;> simp_all <;> omega
  unfold s32
  rw [← e, wrapU_toInt]
theorem w_calls (v : BitVec 64) (w : World) : Calls Tryz.prog 95 #[.int .u64 (U v)] w fun e w' => e = .returned (.int .u64 (U (s32 v))) ∧ Below w.heap.size w w' := by
  have h := s32W v (s32_U v)
  go_enter Tryz.func95, Tryz.ntmps95
  go_wp2
  go_ret
  exact ⟨rfl, Below.refl _ _⟩
set_option maxRecDepth 20000 in
theorem op_lui (p : Value) (i0 i1 i2 i3 i4 : Int) (a b k : BitVec 64) (w : World) : Calls Tryz.prog 49 #[p, .agg #[.int .i64 i0, .int .i64 i1, .int .i64 i2, .int .i64 i3, .int .i64 i4], .int .u64 (U a), .int .u64 (U b), .int .u64 (U k)] w fun e w' => e = .returned (.int .u64 (U (s32 (k <<< 12)))) ∧ Below w.heap.size w w' := by
  have h0 := shl12 k
  have HB := Aside0.mk (below_alloc (Below.refl w.heap.size w) (.cells #[.int .i64 i0, .int .i64 i1, .int .i64 i2, .int .i64 i3, .int .i64 i4] 42))
  go_enter Tryz.func49, Tryz.ntmps49
  go_wp2_with fail
  refine (w_calls (k <<< 12) _).mono ?_
  rintro e w1 ⟨rfl, hb⟩
  have HB1 := Aside0.mk (below_step HB.out hb)
  go_wp2
  go_ret
  exact ⟨rfl, HB1.out⟩
set_option maxRecDepth 20000 in
theorem op_addi (p : Value) (i0 i1 i2 i3 i4 : Int) (a b k : BitVec 64) (w : World) : Calls Tryz.prog 50 #[p, .agg #[.int .i64 i0, .int .i64 i1, .int .i64 i2, .int .i64 i3, .int .i64 i4], .int .u64 (U a), .int .u64 (U b), .int .u64 (U k)] w fun e w' => e = .returned (.int .u64 (U (a + k))) ∧ Below w.heap.size w w' := by
  have h0 := addU a k
  have HB := Aside0.mk (below_alloc (Below.refl w.heap.size w) (.cells #[.int .i64 i0, .int .i64 i1, .int .i64 i2, .int .i64 i3, .int .i64 i4] 42))
  go_enter Tryz.func50, Tryz.ntmps50
  go_wp2
  go_ret
  exact ⟨rfl, HB.out⟩
set_option maxRecDepth 20000 in
theorem op_addiw (p : Value) (i0 i1 i2 i3 i4 : Int) (a b k : BitVec 64) (w : World) : Calls Tryz.prog 51 #[p, .agg #[.int .i64 i0, .int .i64 i1, .int .i64 i2, .int .i64 i3, .int .i64 i4], .int .u64 (U a), .int .u64 (U b), .int .u64 (U k)] w fun e w' => e = .returned (.int .u64 (U (s32 (a + k)))) ∧ Below w.heap.size w w' := by
  have h0 := addU a k
  have HB := Aside0.mk (below_alloc (Below.refl w.heap.size w) (.cells #[.int .i64 i0, .int .i64 i1, .int .i64 i2, .int .i64 i3, .int .i64 i4] 42))
  go_enter Tryz.func51, Tryz.ntmps51
  go_wp2_with fail
  refine (w_calls (a + k) _).mono ?_
  rintro e w1 ⟨rfl, hb⟩
  have HB1 := Aside0.mk (below_step HB.out hb)
  go_wp2
  go_ret
  exact ⟨rfl, HB1.out⟩
set_option maxRecDepth 20000 in
theorem op_andi (p : Value) (i0 i1 i2 i3 i4 : Int) (a b k : BitVec 64) (w : World) : Calls Tryz.prog 52 #[p, .agg #[.int .i64 i0, .int .i64 i1, .int .i64 i2, .int .i64 i3, .int .i64 i4], .int .u64 (U a), .int .u64 (U b), .int .u64 (U k)] w fun e w' => e = .returned (.int .u64 (U (a &&& k))) ∧ Below w.heap.size w w' := by
  have h0 := and_U a k
  have HB := Aside0.mk (below_alloc (Below.refl w.heap.size w) (.cells #[.int .i64 i0, .int .i64 i1, .int .i64 i2, .int .i64 i3, .int .i64 i4] 42))
  go_enter Tryz.func52, Tryz.ntmps52
  go_wp2
  go_ret
  exact ⟨rfl, HB.out⟩
set_option maxRecDepth 20000 in
theorem op_ori (p : Value) (i0 i1 i2 i3 i4 : Int) (a b k : BitVec 64) (w : World) : Calls Tryz.prog 53 #[p, .agg #[.int .i64 i0, .int .i64 i1, .int .i64 i2, .int .i64 i3, .int .i64 i4], .int .u64 (U a), .int .u64 (U b), .int .u64 (U k)] w fun e w' => e = .returned (.int .u64 (U (a ||| k))) ∧ Below w.heap.size w w' := by
  have h0 := or_U a k
  have HB := Aside0.mk (below_alloc (Below.refl w.heap.size w) (.cells #[.int .i64 i0, .int .i64 i1, .int .i64 i2, .int .i64 i3, .int .i64 i4] 42))
  go_enter Tryz.func53, Tryz.ntmps53
  go_wp2
  go_ret
  exact ⟨rfl, HB.out⟩
set_option maxRecDepth 20000 in
theorem op_xori (p : Value) (i0 i1 i2 i3 i4 : Int) (a b k : BitVec 64) (w : World) : Calls Tryz.prog 54 #[p, .agg #[.int .i64 i0, .int .i64 i1, .int .i64 i2, .int .i64 i3, .int .i64 i4], .int .u64 (U a), .int .u64 (U b), .int .u64 (U k)] w fun e w' => e = .returned (.int .u64 (U (a ^^^ k))) ∧ Below w.heap.size w w' := by
  have h0 := xor_U a k
  have HB := Aside0.mk (below_alloc (Below.refl w.heap.size w) (.cells #[.int .i64 i0, .int .i64 i1, .int .i64 i2, .int .i64 i3, .int .i64 i4] 42))
  go_enter Tryz.func54, Tryz.ntmps54
  go_wp2
  go_ret
  exact ⟨rfl, HB.out⟩
set_option maxRecDepth 20000 in
theorem op_slli (p : Value) (i0 i1 i2 i3 i4 : Int) (a b k : BitVec 64) (w : World) : Calls Tryz.prog 55 #[p, .agg #[.int .i64 i0, .int .i64 i1, .int .i64 i2, .int .i64 i3, .int .i64 i4], .int .u64 (U a), .int .u64 (U b), .int .u64 (U k)] w fun e w' => e = .returned (.int .u64 (U (a <<< k.toNat))) ∧ Below w.heap.size w w' := by
  have h0 := U_nonneg k
  have h1 := shlU (a) k
  have HB := Aside0.mk (below_alloc (Below.refl w.heap.size w) (.cells #[.int .i64 i0, .int .i64 i1, .int .i64 i2, .int .i64 i3, .int .i64 i4] 42))
  go_enter Tryz.func55, Tryz.ntmps55
  go_wp2
  go_ret
  exact ⟨rfl, HB.out⟩
set_option maxRecDepth 20000 in
theorem op_srli (p : Value) (i0 i1 i2 i3 i4 : Int) (a b k : BitVec 64) (w : World) : Calls Tryz.prog 56 #[p, .agg #[.int .i64 i0, .int .i64 i1, .int .i64 i2, .int .i64 i3, .int .i64 i4], .int .u64 (U a), .int .u64 (U b), .int .u64 (U k)] w fun e w' => e = .returned (.int .u64 (U (a >>> k.toNat))) ∧ Below w.heap.size w w' := by
  have h0 := U_nonneg k
  have h1 := shrU (a) k
  have HB := Aside0.mk (below_alloc (Below.refl w.heap.size w) (.cells #[.int .i64 i0, .int .i64 i1, .int .i64 i2, .int .i64 i3, .int .i64 i4] 42))
  go_enter Tryz.func56, Tryz.ntmps56
  go_wp2
  go_ret
  exact ⟨rfl, HB.out⟩
set_option maxRecDepth 20000 in
theorem op_slliw (p : Value) (i0 i1 i2 i3 i4 : Int) (a b k : BitVec 64) (w : World) : Calls Tryz.prog 57 #[p, .agg #[.int .i64 i0, .int .i64 i1, .int .i64 i2, .int .i64 i3, .int .i64 i4], .int .u64 (U a), .int .u64 (U b), .int .u64 (U k)] w fun e w' => e = .returned (.int .u64 (U (s32 (a <<< k.toNat)))) ∧ Below w.heap.size w w' := by
  have h0 := U_nonneg k
  have h1 := shlU (a) k
  have HB := Aside0.mk (below_alloc (Below.refl w.heap.size w) (.cells #[.int .i64 i0, .int .i64 i1, .int .i64 i2, .int .i64 i3, .int .i64 i4] 42))
  go_enter Tryz.func57, Tryz.ntmps57
  go_wp2_with fail
  refine (w_calls (a <<< k.toNat) _).mono ?_
  rintro e w1 ⟨rfl, hb⟩
  have HB1 := Aside0.mk (below_step HB.out hb)
  go_wp2
  go_ret
  exact ⟨rfl, HB1.out⟩
set_option maxRecDepth 20000 in
theorem op_srliw (p : Value) (i0 i1 i2 i3 i4 : Int) (a b k : BitVec 64) (w : World) : Calls Tryz.prog 58 #[p, .agg #[.int .i64 i0, .int .i64 i1, .int .i64 i2, .int .i64 i3, .int .i64 i4], .int .u64 (U a), .int .u64 (U b), .int .u64 (U k)] w fun e w' => e = .returned (.int .u64 (U (s32 (low a >>> k.toNat)))) ∧ Below w.heap.size w w' := by
  have h0 := lowU a
  have h1 := U_nonneg k
  have h2 := shrU (low a) k
  have HB := Aside0.mk (below_alloc (Below.refl w.heap.size w) (.cells #[.int .i64 i0, .int .i64 i1, .int .i64 i2, .int .i64 i3, .int .i64 i4] 42))
  go_enter Tryz.func58, Tryz.ntmps58
  go_wp2_with fail
  refine (w_calls (low a >>> k.toNat) _).mono ?_
  rintro e w1 ⟨rfl, hb⟩
  have HB1 := Aside0.mk (below_step HB.out hb)
  go_wp2
  go_ret
  exact ⟨rfl, HB1.out⟩
set_option maxRecDepth 20000 in
theorem op_add (p : Value) (i0 i1 i2 i3 i4 : Int) (a b k : BitVec 64) (w : World) : Calls Tryz.prog 64 #[p, .agg #[.int .i64 i0, .int .i64 i1, .int .i64 i2, .int .i64 i3, .int .i64 i4], .int .u64 (U a), .int .u64 (U b), .int .u64 (U k)] w fun e w' => e = .returned (.int .u64 (U (a + b))) ∧ Below w.heap.size w w' := by
  have h0 := addU a b
  have HB := Aside0.mk (below_alloc (Below.refl w.heap.size w) (.cells #[.int .i64 i0, .int .i64 i1, .int .i64 i2, .int .i64 i3, .int .i64 i4] 42))
  go_enter Tryz.func64, Tryz.ntmps64
  go_wp2
  go_ret
  exact ⟨rfl, HB.out⟩
set_option maxRecDepth 20000 in
theorem op_sub (p : Value) (i0 i1 i2 i3 i4 : Int) (a b k : BitVec 64) (w : World) : Calls Tryz.prog 65 #[p, .agg #[.int .i64 i0, .int .i64 i1, .int .i64 i2, .int .i64 i3, .int .i64 i4], .int .u64 (U a), .int .u64 (U b), .int .u64 (U k)] w fun e w' => e = .returned (.int .u64 (U (a - b))) ∧ Below w.heap.size w w' := by
  have h0 := subU a b
  have HB := Aside0.mk (below_alloc (Below.refl w.heap.size w) (.cells #[.int .i64 i0, .int .i64 i1, .int .i64 i2, .int .i64 i3, .int .i64 i4] 42))
  go_enter Tryz.func65, Tryz.ntmps65
  go_wp2
  go_ret
  exact ⟨rfl, HB.out⟩
set_option maxRecDepth 20000 in
theorem op_and (p : Value) (i0 i1 i2 i3 i4 : Int) (a b k : BitVec 64) (w : World) : Calls Tryz.prog 66 #[p, .agg #[.int .i64 i0, .int .i64 i1, .int .i64 i2, .int .i64 i3, .int .i64 i4], .int .u64 (U a), .int .u64 (U b), .int .u64 (U k)] w fun e w' => e = .returned (.int .u64 (U (a &&& b))) ∧ Below w.heap.size w w' := by
  have h0 := and_U a b
  have HB := Aside0.mk (below_alloc (Below.refl w.heap.size w) (.cells #[.int .i64 i0, .int .i64 i1, .int .i64 i2, .int .i64 i3, .int .i64 i4] 42))
  go_enter Tryz.func66, Tryz.ntmps66
  go_wp2
  go_ret
  exact ⟨rfl, HB.out⟩
set_option maxRecDepth 20000 in
theorem op_or (p : Value) (i0 i1 i2 i3 i4 : Int) (a b k : BitVec 64) (w : World) : Calls Tryz.prog 67 #[p, .agg #[.int .i64 i0, .int .i64 i1, .int .i64 i2, .int .i64 i3, .int .i64 i4], .int .u64 (U a), .int .u64 (U b), .int .u64 (U k)] w fun e w' => e = .returned (.int .u64 (U (a ||| b))) ∧ Below w.heap.size w w' := by
  have h0 := or_U a b
  have HB := Aside0.mk (below_alloc (Below.refl w.heap.size w) (.cells #[.int .i64 i0, .int .i64 i1, .int .i64 i2, .int .i64 i3, .int .i64 i4] 42))
  go_enter Tryz.func67, Tryz.ntmps67
  go_wp2
  go_ret
  exact ⟨rfl, HB.out⟩
set_option maxRecDepth 20000 in
theorem op_xor (p : Value) (i0 i1 i2 i3 i4 : Int) (a b k : BitVec 64) (w : World) : Calls Tryz.prog 68 #[p, .agg #[.int .i64 i0, .int .i64 i1, .int .i64 i2, .int .i64 i3, .int .i64 i4], .int .u64 (U a), .int .u64 (U b), .int .u64 (U k)] w fun e w' => e = .returned (.int .u64 (U (a ^^^ b))) ∧ Below w.heap.size w w' := by
  have h0 := xor_U a b
  have HB := Aside0.mk (below_alloc (Below.refl w.heap.size w) (.cells #[.int .i64 i0, .int .i64 i1, .int .i64 i2, .int .i64 i3, .int .i64 i4] 42))
  go_enter Tryz.func68, Tryz.ntmps68
  go_wp2
  go_ret
  exact ⟨rfl, HB.out⟩
set_option maxRecDepth 20000 in
theorem op_sll (p : Value) (i0 i1 i2 i3 i4 : Int) (a b k : BitVec 64) (w : World) : Calls Tryz.prog 69 #[p, .agg #[.int .i64 i0, .int .i64 i1, .int .i64 i2, .int .i64 i3, .int .i64 i4], .int .u64 (U a), .int .u64 (U b), .int .u64 (U k)] w fun e w' => e = .returned (.int .u64 (U (a <<< (b &&& 63#64).toNat))) ∧ Below w.heap.size w w' := by
  have h0 := and63 b
  have h1 := U_nonneg (b &&& 63#64)
  have h2 := shlU (a) (b &&& 63#64)
  have HB := Aside0.mk (below_alloc (Below.refl w.heap.size w) (.cells #[.int .i64 i0, .int .i64 i1, .int .i64 i2, .int .i64 i3, .int .i64 i4] 42))
  go_enter Tryz.func69, Tryz.ntmps69
  go_wp2
  go_ret
  exact ⟨rfl, HB.out⟩
set_option maxRecDepth 20000 in
theorem op_srl (p : Value) (i0 i1 i2 i3 i4 : Int) (a b k : BitVec 64) (w : World) : Calls Tryz.prog 70 #[p, .agg #[.int .i64 i0, .int .i64 i1, .int .i64 i2, .int .i64 i3, .int .i64 i4], .int .u64 (U a), .int .u64 (U b), .int .u64 (U k)] w fun e w' => e = .returned (.int .u64 (U (a >>> (b &&& 63#64).toNat))) ∧ Below w.heap.size w w' := by
  have h0 := and63 b
  have h1 := U_nonneg (b &&& 63#64)
  have h2 := shrU (a) (b &&& 63#64)
  have HB := Aside0.mk (below_alloc (Below.refl w.heap.size w) (.cells #[.int .i64 i0, .int .i64 i1, .int .i64 i2, .int .i64 i3, .int .i64 i4] 42))
  go_enter Tryz.func70, Tryz.ntmps70
  go_wp2
  go_ret
  exact ⟨rfl, HB.out⟩
set_option maxRecDepth 20000 in
theorem op_addw (p : Value) (i0 i1 i2 i3 i4 : Int) (a b k : BitVec 64) (w : World) : Calls Tryz.prog 71 #[p, .agg #[.int .i64 i0, .int .i64 i1, .int .i64 i2, .int .i64 i3, .int .i64 i4], .int .u64 (U a), .int .u64 (U b), .int .u64 (U k)] w fun e w' => e = .returned (.int .u64 (U (s32 (a + b)))) ∧ Below w.heap.size w w' := by
  have h0 := addU a b
  have HB := Aside0.mk (below_alloc (Below.refl w.heap.size w) (.cells #[.int .i64 i0, .int .i64 i1, .int .i64 i2, .int .i64 i3, .int .i64 i4] 42))
  go_enter Tryz.func71, Tryz.ntmps71
  go_wp2_with fail
  refine (w_calls (a + b) _).mono ?_
  rintro e w1 ⟨rfl, hb⟩
  have HB1 := Aside0.mk (below_step HB.out hb)
  go_wp2
  go_ret
  exact ⟨rfl, HB1.out⟩
set_option maxRecDepth 20000 in
theorem op_subw (p : Value) (i0 i1 i2 i3 i4 : Int) (a b k : BitVec 64) (w : World) : Calls Tryz.prog 72 #[p, .agg #[.int .i64 i0, .int .i64 i1, .int .i64 i2, .int .i64 i3, .int .i64 i4], .int .u64 (U a), .int .u64 (U b), .int .u64 (U k)] w fun e w' => e = .returned (.int .u64 (U (s32 (a - b)))) ∧ Below w.heap.size w w' := by
  have h0 := subU a b
  have HB := Aside0.mk (below_alloc (Below.refl w.heap.size w) (.cells #[.int .i64 i0, .int .i64 i1, .int .i64 i2, .int .i64 i3, .int .i64 i4] 42))
  go_enter Tryz.func72, Tryz.ntmps72
  go_wp2_with fail
  refine (w_calls (a - b) _).mono ?_
  rintro e w1 ⟨rfl, hb⟩
  have HB1 := Aside0.mk (below_step HB.out hb)
  go_wp2
  go_ret
  exact ⟨rfl, HB1.out⟩
set_option maxRecDepth 20000 in
theorem op_mulw (p : Value) (i0 i1 i2 i3 i4 : Int) (a b k : BitVec 64) (w : World) : Calls Tryz.prog 73 #[p, .agg #[.int .i64 i0, .int .i64 i1, .int .i64 i2, .int .i64 i3, .int .i64 i4], .int .u64 (U a), .int .u64 (U b), .int .u64 (U k)] w fun e w' => e = .returned (.int .u64 (U (s32 (a * b)))) ∧ Below w.heap.size w w' := by
  have h0 := mulU a b
  have HB := Aside0.mk (below_alloc (Below.refl w.heap.size w) (.cells #[.int .i64 i0, .int .i64 i1, .int .i64 i2, .int .i64 i3, .int .i64 i4] 42))
  go_enter Tryz.func73, Tryz.ntmps73
  go_wp2_with fail
  refine (w_calls (a * b) _).mono ?_
  rintro e w1 ⟨rfl, hb⟩
  have HB1 := Aside0.mk (below_step HB.out hb)
  go_wp2
  go_ret
  exact ⟨rfl, HB1.out⟩
set_option maxRecDepth 20000 in
theorem op_sllw (p : Value) (i0 i1 i2 i3 i4 : Int) (a b k : BitVec 64) (w : World) : Calls Tryz.prog 75 #[p, .agg #[.int .i64 i0, .int .i64 i1, .int .i64 i2, .int .i64 i3, .int .i64 i4], .int .u64 (U a), .int .u64 (U b), .int .u64 (U k)] w fun e w' => e = .returned (.int .u64 (U (s32 (a <<< (b &&& 31#64).toNat)))) ∧ Below w.heap.size w w' := by
  have h0 := and31 b
  have h1 := U_nonneg (b &&& 31#64)
  have h2 := shlU (a) (b &&& 31#64)
  have HB := Aside0.mk (below_alloc (Below.refl w.heap.size w) (.cells #[.int .i64 i0, .int .i64 i1, .int .i64 i2, .int .i64 i3, .int .i64 i4] 42))
  go_enter Tryz.func75, Tryz.ntmps75
  go_wp2_with fail
  refine (w_calls (a <<< (b &&& 31#64).toNat) _).mono ?_
  rintro e w1 ⟨rfl, hb⟩
  have HB1 := Aside0.mk (below_step HB.out hb)
  go_wp2
  go_ret
  exact ⟨rfl, HB1.out⟩
set_option maxRecDepth 20000 in
theorem op_srlw (p : Value) (i0 i1 i2 i3 i4 : Int) (a b k : BitVec 64) (w : World) : Calls Tryz.prog 76 #[p, .agg #[.int .i64 i0, .int .i64 i1, .int .i64 i2, .int .i64 i3, .int .i64 i4], .int .u64 (U a), .int .u64 (U b), .int .u64 (U k)] w fun e w' => e = .returned (.int .u64 (U (s32 (low a >>> (b &&& 31#64).toNat)))) ∧ Below w.heap.size w w' := by
  have h0 := and31 b
  have h1 := lowU a
  have h2 := U_nonneg (b &&& 31#64)
  have h3 := shrU (low a) (b &&& 31#64)
  have HB := Aside0.mk (below_alloc (Below.refl w.heap.size w) (.cells #[.int .i64 i0, .int .i64 i1, .int .i64 i2, .int .i64 i3, .int .i64 i4] 42))
  go_enter Tryz.func76, Tryz.ntmps76
  go_wp2_with fail
  refine (w_calls (low a >>> (b &&& 31#64).toNat) _).mono ?_
  rintro e w1 ⟨rfl, hb⟩
  have HB1 := Aside0.mk (below_step HB.out hb)
  go_wp2
  go_ret
  exact ⟨rfl, HB1.out⟩
end Go.Proofs.YtcgkgaibomcheaaGreat.Alu
end

section
namespace Go.Proofs.YtcgkgaibomcheaaGreat.Mb
open Go.RowKit Bits Alu YtcgkgaibomcheaaGreatW.PrintWords YtcgkgaibomcheaaGreatW.PrintLast YtcgkgaibomcheaaGreatW.PrintMore
def MB (T n : Nat) (W : World) (g : Nat) (v : Nat → Value) : Prop := ∃ cs : Array Value, W.heap[g]? = some (.cells cs T (0, 0)) ∧ ∀ i, i < n → cs[i]? = some (v i)
theorem MB.cell {T n : Nat} {W : World} {g : Nat} {v : Nat → Value} (h : MB T n W g v) (i : Nat) (hi : i < n) : W.cell? ⟨g, i, none⟩ = some (v i) := by
  obtain ⟨cs, h1, h2⟩ := h
  exact (blk_cell h1 i).trans (h2 i hi)
theorem MB.frozen {T n : Nat} {W : World} {g : Nat} {v : Nat → Value} (h : MB T n W g v) (i : Nat) : W.frozen? ⟨g, i, none⟩ = false := by
  obtain ⟨cs, h1, h2⟩ := h
  exact blk_frozen h1 i
theorem MB.lt {T n : Nat} {W : World} {g : Nat} {v : Nat → Value} (h : MB T n W g v) : g < W.heap.size := by
  obtain ⟨cs, h1, h2⟩ := h
  exact blk_lt h1
theorem MB.of {T n : Nat} {W W' : World} {g : Nat} {v : Nat → Value} (h : MB T n W g v) (hb : W'.heap[g]? = W.heap[g]?) : MB T n W' g v := by
  obtain ⟨cs, h1, h2⟩ := h
  exact ⟨cs, hb.trans h1, h2⟩
theorem MB.below {T n : Nat} {W W' : World} {g : Nat} {v : Nat → Value} (h : MB T n W g v) (hb : Below W.heap.size W W') : MB T n W' g v := h.of (hb.block g h.lt)
theorem MB.put {T n : Nat} {W : World} {g : Nat} {v : Nat → Value} (h : MB T n W g v) (j : Nat) (u : Value) (v' : Nat → Value) (hj : v' j = u) (hv : ∀ i, i < n → i ≠ j → v' i = v i) : MB T n (W.setCell ⟨g, j, none⟩ u) g v' := by
  obtain ⟨cs, h1, h2⟩ := h
  refine ⟨_, blk_set h1 j u, fun i hi => ?_⟩
  rw [Array.getElem?_setIfInBounds]
  by_cases e : j = i
  · subst e
    have hs : j < cs.size := (Array.getElem?_eq_some_iff.1 (h2 j hi)).1
    rw [if_pos rfl, if_pos hs, hj]
  · rw [if_neg e, h2 i hi, hv i hi (fun x => e x.symm)]
theorem MB.far {T n : Nat} {W : World} {g : Nat} {v : Nat → Value} (h : MB T n W g v) {p : Addr} (hp : g ≠ p.block) (u : Value) : MB T n (W.setCell p u) g v := h.of (Below.heap_setCell W p u g hp)
def Only (g : Nat) (W W' : World) : Prop := Kept W W' (fun k => k = g) ∧ W'.os = W.os ∧ W'.tape = W.tape ∧ W'.output = W.output
theorem Only.refl (g : Nat) (W : World) : Only g W W := ⟨Kept.refl _ _, rfl, rfl, rfl⟩
theorem Only.below {g : Nat} {W W1 W2 : World} (h : Only g W W1) (hb : Below W1.heap.size W1 W2) : Only g W W2 := ⟨h.1.below hb, hb.os.trans h.2.1, hb.tape.trans h.2.2.1, hb.output.trans h.2.2.2⟩
theorem Only.set {g : Nat} {W W1 : World} (h : Only g W W1) (j : Nat) (u : Value) : Only g W (W1.setCell ⟨g, j, none⟩ u) := ⟨h.1.setCell (.inl rfl) u, h.2⟩
theorem Only.then_ {g : Nat} {W W1 W2 : World} (h : Only g W W1) (k : Only g W1 W2) : Only g W W2 := ⟨h.1.then_ k.1 (fun _ hk => .inl hk), k.2.1.trans h.2.1, k.2.2.1.trans h.2.2.1, k.2.2.2.trans h.2.2.2⟩
def atPc (v : Nat → Value) (pc : BitVec 64) : Nat → Value := fun i => if i = 35 then .int .u64 (U pc) else v i
theorem atPc_set {W : World} {g : Nat} {v : Nat → Value} (h : MB 74 42 W g v) (pc : BitVec 64) : MB 74 42 (W.setCell ⟨g, 35, none⟩ (.int .u64 (U pc))) g (atPc v pc) :=
  h.put 35 _ _ rfl (fun i _ hi => if_neg hi)
set_option maxRecDepth 20000 in
theorem goes_no (p : Value) (k : BitVec 64) (w : World) : Calls Tryz.prog 98 #[p, .bool false, .int .u64 (U k)] w fun e w' => e = .returned (.int .u64 (U 0#64)) ∧ w' = w := by
  go_enter Tryz.func98, Tryz.ntmps98
  go_wp2
  go_ret
  exact ⟨rfl, rfl⟩
set_option maxRecDepth 20000 in
theorem goes_yes (g : Nat) (v : Nat → Value) (pc k : BitVec 64) (w : World) (h : MB 74 42 w g v) (hp : v 35 = .int .u64 (U pc)) : Calls Tryz.prog 98 #[.pointer (some ⟨g, 0, none⟩), .bool true, .int .u64 (U k)] w fun e w' => e = .returned (.int .u64 (U 0#64)) ∧ w' = w.setCell ⟨g, 35, none⟩ (.int .u64 (U (pc + (k - 4#64)))) := by
  have hc := (h.cell 35 (by omega)).trans (congrArg some hp)
  have hf := h.frozen 35
  have h4 : IntKind.u64.wrap (U k - 4) = U (k - 4#64) := subU k 4#64
  have ha := addU pc (k - 4#64)
  clear h hp
  go_enter Tryz.func98, Tryz.ntmps98
  go_wp2
  go_ret
  exact ⟨rfl, rfl⟩
end Go.Proofs.YtcgkgaibomcheaaGreat.Mb
end

section
namespace Go.Proofs.YtcgkgaibomcheaaGreat.Jump
open Go.RowKit Bits Alu Mb YtcgkgaibomcheaaGreatW.PrintWords YtcgkgaibomcheaaGreatW.PrintLast YtcgkgaibomcheaaGreatW.PrintMore
theorem U_eq (a b : BitVec 64) : (U a == U b) = decide (a = b) := by
  by_cases h : a = b
  · subst h; simp
  · rw [decide_eq_false h, beq_eq_false_iff_ne]
    exact fun e => h (U_inj e)
theorem U_ne (a b : BitVec 64) : (U a != U b) = !decide (a = b) := by rw [bne, U_eq]
theorem U_lt' (a b : BitVec 64) : decide (U a < U b) = decide (a.toNat < b.toNat) := by
  unfold U
  rw [decide_eq_decide]
  omega
theorem U_ge (a b : BitVec 64) : decide (U a ≥ U b) = decide (b.toNat ≤ a.toNat) := by
  unfold U
  rw [decide_eq_decide]
  omega
def Goes (g : Nat) (v : Nat → Value) (pc k : BitVec 64) (is : Bool) (w w' : World) : Prop := MB 74 42 w' g (if is = true then atPc v (pc + (k - 4#64)) else v) ∧ Only g w w'
theorem goes (g : Nat) (v : Nat → Value) (pc k : BitVec 64) (w : World) (h : MB 74 42 w g v) (hp : v 35 = .int .u64 (U pc)) (is : Bool) : Calls Tryz.prog 98 #[.pointer (some ⟨g, 0, none⟩), .bool is, .int .u64 (U k)] w fun e w' => e = .returned (.int .u64 (U 0#64)) ∧ Goes g v pc k is w w' := by
  cases is
  · refine (goes_no _ k w).mono ?_
    rintro e w' ⟨rfl, rfl⟩
    exact ⟨rfl, h, Only.refl _ _⟩
  · refine (goes_yes g v pc k w h hp).mono ?_
    rintro e w' ⟨rfl, rfl⟩
    exact ⟨rfl, atPc_set h _, (Only.refl _ _).set _ _⟩
set_option maxRecDepth 20000 in
theorem op_beq (g : Nat) (v : Nat → Value) (pc : BitVec 64) (i0 i1 i2 i3 i4 : Int) (a b k : BitVec 64) (w : World) (h : MB 74 42 w g v) (hp : v 35 = .int .u64 (U pc)) :
    Calls Tryz.prog 77 #[.pointer (some ⟨g, 0, none⟩), .agg #[.int .i64 i0, .int .i64 i1, .int .i64 i2, .int .i64 i3, .int .i64 i4], .int .u64 (U a), .int .u64 (U b), .int .u64 (U k)] w fun e w' => e = .returned (.int .u64 (U 0#64)) ∧ Goes g v pc k (decide (a = b)) w w' := by
  have hl := U_eq a b
  have HB := Aside0.mk (below_alloc (Below.refl w.heap.size w) (.cells #[.int .i64 i0, .int .i64 i1, .int .i64 i2, .int .i64 i3, .int .i64 i4] 42))
  have HG := Aside0.mk (goes g v pc k _ (h.below HB.out) hp (decide (a = b)))
  clear h hp
  go_enter Tryz.func77, Tryz.ntmps77
  go_wp2_with fail
  refine HG.out.mono ?_
  rintro e w1 ⟨rfl, hm, ho⟩
  have HM := Aside0.mk hm
  have HO := Aside0.mk (((Only.refl g w).below HB.out).then_ ho)
  clear hm ho HG hl
  go_wp2
  go_ret
  exact ⟨rfl, HM.out, HO.out⟩
set_option maxRecDepth 20000 in
theorem op_bne (g : Nat) (v : Nat → Value) (pc : BitVec 64) (i0 i1 i2 i3 i4 : Int) (a b k : BitVec 64) (w : World) (h : MB 74 42 w g v) (hp : v 35 = .int .u64 (U pc)) :
    Calls Tryz.prog 78 #[.pointer (some ⟨g, 0, none⟩), .agg #[.int .i64 i0, .int .i64 i1, .int .i64 i2, .int .i64 i3, .int .i64 i4], .int .u64 (U a), .int .u64 (U b), .int .u64 (U k)] w fun e w' => e = .returned (.int .u64 (U 0#64)) ∧ Goes g v pc k (!decide (a = b)) w w' := by
  have hl := U_ne a b
  have HB := Aside0.mk (below_alloc (Below.refl w.heap.size w) (.cells #[.int .i64 i0, .int .i64 i1, .int .i64 i2, .int .i64 i3, .int .i64 i4] 42))
  have HG := Aside0.mk (goes g v pc k _ (h.below HB.out) hp (!decide (a = b)))
  clear h hp
  go_enter Tryz.func78, Tryz.ntmps78
  go_wp2_with fail
  refine HG.out.mono ?_
  rintro e w1 ⟨rfl, hm, ho⟩
  have HM := Aside0.mk hm
  have HO := Aside0.mk (((Only.refl g w).below HB.out).then_ ho)
  clear hm ho HG hl
  go_wp2
  go_ret
  exact ⟨rfl, HM.out, HO.out⟩
set_option maxRecDepth 20000 in
theorem op_bltu (g : Nat) (v : Nat → Value) (pc : BitVec 64) (i0 i1 i2 i3 i4 : Int) (a b k : BitVec 64) (w : World) (h : MB 74 42 w g v) (hp : v 35 = .int .u64 (U pc)) :
    Calls Tryz.prog 79 #[.pointer (some ⟨g, 0, none⟩), .agg #[.int .i64 i0, .int .i64 i1, .int .i64 i2, .int .i64 i3, .int .i64 i4], .int .u64 (U a), .int .u64 (U b), .int .u64 (U k)] w fun e w' => e = .returned (.int .u64 (U 0#64)) ∧ Goes g v pc k (decide (a.toNat < b.toNat)) w w' := by
  have hl := U_lt' a b
  have HB := Aside0.mk (below_alloc (Below.refl w.heap.size w) (.cells #[.int .i64 i0, .int .i64 i1, .int .i64 i2, .int .i64 i3, .int .i64 i4] 42))
  have HG := Aside0.mk (goes g v pc k _ (h.below HB.out) hp (decide (a.toNat < b.toNat)))
  clear h hp
  go_enter Tryz.func79, Tryz.ntmps79
  go_wp2_with fail
  refine HG.out.mono ?_
  rintro e w1 ⟨rfl, hm, ho⟩
  have HM := Aside0.mk hm
  have HO := Aside0.mk (((Only.refl g w).below HB.out).then_ ho)
  clear hm ho HG hl
  go_wp2
  go_ret
  exact ⟨rfl, HM.out, HO.out⟩
set_option maxRecDepth 20000 in
theorem op_bgeu (g : Nat) (v : Nat → Value) (pc : BitVec 64) (i0 i1 i2 i3 i4 : Int) (a b k : BitVec 64) (w : World) (h : MB 74 42 w g v) (hp : v 35 = .int .u64 (U pc)) :
    Calls Tryz.prog 80 #[.pointer (some ⟨g, 0, none⟩), .agg #[.int .i64 i0, .int .i64 i1, .int .i64 i2, .int .i64 i3, .int .i64 i4], .int .u64 (U a), .int .u64 (U b), .int .u64 (U k)] w fun e w' => e = .returned (.int .u64 (U 0#64)) ∧ Goes g v pc k (decide (b.toNat ≤ a.toNat)) w w' := by
  have hl := U_ge a b
  have HB := Aside0.mk (below_alloc (Below.refl w.heap.size w) (.cells #[.int .i64 i0, .int .i64 i1, .int .i64 i2, .int .i64 i3, .int .i64 i4] 42))
  have HG := Aside0.mk (goes g v pc k _ (h.below HB.out) hp (decide (b.toNat ≤ a.toNat)))
  clear h hp
  go_enter Tryz.func80, Tryz.ntmps80
  go_wp2_with fail
  refine HG.out.mono ?_
  rintro e w1 ⟨rfl, hm, ho⟩
  have HM := Aside0.mk hm
  have HO := Aside0.mk (((Only.refl g w).below HB.out).then_ ho)
  clear hm ho HG hl
  go_wp2
  go_ret
  exact ⟨rfl, HM.out, HO.out⟩
set_option maxRecDepth 20000 in
theorem op_jal (g : Nat) (v : Nat → Value) (pc : BitVec 64) (i0 i1 i2 i3 i4 : Int) (a b k : BitVec 64) (w : World) (h : MB 74 42 w g v) (hp : v 35 = .int .u64 (U pc)) :
    Calls Tryz.prog 81 #[.pointer (some ⟨g, 0, none⟩), .agg #[.int .i64 i0, .int .i64 i1, .int .i64 i2, .int .i64 i3, .int .i64 i4], .int .u64 (U a), .int .u64 (U b), .int .u64 (U k)] w fun e w' => e = .returned (.int .u64 (U pc)) ∧ Goes g v pc k true w w' := by
  have HB := Aside0.mk (below_alloc (Below.refl w.heap.size w) (.cells #[.int .i64 i0, .int .i64 i1, .int .i64 i2, .int .i64 i3, .int .i64 i4] 42))
  have hc := ((h.below HB.out).cell 35 (by omega)).trans (congrArg some hp)
  have HG := Aside0.mk (goes g v pc k _ (h.below HB.out) hp true)
  clear h hp
  go_enter Tryz.func81, Tryz.ntmps81
  go_wp2_with fail
  refine HG.out.mono ?_
  rintro e w1 ⟨rfl, hm, ho⟩
  have HM := Aside0.mk hm
  have HO := Aside0.mk (((Only.refl g w).below HB.out).then_ ho)
  clear hm ho HG hc
  go_wp2
  go_ret
  exact ⟨rfl, HM.out, HO.out⟩
set_option maxRecDepth 20000 in
theorem op_jalr (g : Nat) (v : Nat → Value) (pc : BitVec 64) (i0 i1 i2 i3 i4 : Int) (a b k : BitVec 64) (w : World) (h : MB 74 42 w g v) (hp : v 35 = .int .u64 (U pc)) :
    Calls Tryz.prog 82 #[.pointer (some ⟨g, 0, none⟩), .agg #[.int .i64 i0, .int .i64 i1, .int .i64 i2, .int .i64 i3, .int .i64 i4], .int .u64 (U a), .int .u64 (U b), .int .u64 (U k)] w fun e w' => e = .returned (.int .u64 (U pc)) ∧ MB 74 42 w' g (atPc v ((a + k) &&& ~~~1#64)) ∧ Only g w w' := by
  have HB := Aside0.mk (below_alloc (Below.refl w.heap.size w) (.cells #[.int .i64 i0, .int .i64 i1, .int .i64 i2, .int .i64 i3, .int .i64 i4] 42))
  have hM := h.below HB.out
  have hc := (hM.cell 35 (by omega)).trans (congrArg some hp)
  have hf := hM.frozen 35
  have ha := addU a k
  have hn : Go.bits .andNot .u64 (U (a + k)) 1 = U ((a + k) &&& ~~~1#64) := andNot_U (a + k) 1#64
  have HM := Aside0.mk (atPc_set hM ((a + k) &&& ~~~1#64))
  have HO := Aside0.mk (((Only.refl g w).below HB.out).set 35 (.int .u64 (U ((a + k) &&& ~~~1#64))))
  clear h hp hM
  go_enter Tryz.func82, Tryz.ntmps82
  go_wp2
  go_ret
  exact ⟨rfl, HM.out, HO.out⟩
theorem quoU (a b : BitVec 64) (h : ¬ U (low b) = 0) : IntKind.u64.wrap (IntKind.u32.wrap (U (low a) / U (low b))) = U (BitVec.ofNat 64 ((low a).toNat / (low b).toNat)) := by
  have e : U (low a) / U (low b) = (((low a).toNat / (low b).toNat : Nat) : Int) := by unfold U; exact (Int.natCast_ediv _ _).symm
  have hq : (low a).toNat / (low b).toNat ≤ (low a).toNat := Nat.div_le_self _ _
  have hl : (low a).toNat < 4294967296 := by
    unfold Alu.low
    rw [BitVec.toNat_ofNat]
    omega
  rw [e]
  generalize (low a).toNat / (low b).toNat = q at hq
  unfold U
  rw [BitVec.toNat_ofNat]
  simp only [IntKind.wrap, IntKind.bits, IntKind.signed, Bool.false_and, Bool.false_eq_true, if_false]
  omega
set_option maxRecDepth 20000 in
theorem op_div_no (p : Value) (i0 i1 i2 i3 i4 : Int) (a b k : BitVec 64) (w : World) (h0 : U (low b) = 0) :
    Calls Tryz.prog 74 #[p, .agg #[.int .i64 i0, .int .i64 i1, .int .i64 i2, .int .i64 i3, .int .i64 i4], .int .u64 (U a), .int .u64 (U b), .int .u64 (U k)] w fun e w' => e = .panicked [{ v := .iface 95 (.agg #[.int .i64 8]), recovered := false }] ∧ Below w.heap.size w w' := by
  have hl := lowU b
  rw [h0] at hl
  have HB := Aside0.mk (below_alloc (Below.refl w.heap.size w) (.cells #[.int .i64 i0, .int .i64 i1, .int .i64 i2, .int .i64 i3, .int .i64 i4] 42))
  clear h0
  go_enter Tryz.func74, Tryz.ntmps74
  go_wp2
  exact ⟨rfl, rfl, HB.out⟩
set_option maxRecDepth 20000 in
theorem op_div_yes (p : Value) (i0 i1 i2 i3 i4 : Int) (a b k : BitVec 64) (w : World) (h0 : ¬ U (low b) = 0) :
    Calls Tryz.prog 74 #[p, .agg #[.int .i64 i0, .int .i64 i1, .int .i64 i2, .int .i64 i3, .int .i64 i4], .int .u64 (U a), .int .u64 (U b), .int .u64 (U k)] w fun e w' => e = .returned (.int .u64 (U (s32 (BitVec.ofNat 64 ((low a).toNat / (low b).toNat))))) ∧ Below w.heap.size w w' := by
  have hl := lowU b
  have hl2 := lowU a
  have hq := quoU a b h0
  have h0b : (U (low b) == 0) = false := by simpa using h0
  have HB := Aside0.mk (below_alloc (Below.refl w.heap.size w) (.cells #[.int .i64 i0, .int .i64 i1, .int .i64 i2, .int .i64 i3, .int .i64 i4] 42))
  go_enter Tryz.func74, Tryz.ntmps74
  go_wp2_with fail
  refine (w_calls (BitVec.ofNat 64 ((low a).toNat / (low b).toNat)) _).mono ?_
  rintro e w1 ⟨rfl, hb⟩
  have HB1 := Aside0.mk (below_step HB.out hb)
  clear hb
  go_wp2
  go_ret
  exact ⟨rfl, HB1.out⟩
end Go.Proofs.YtcgkgaibomcheaaGreat.Jump
end

section
namespace Go.Proofs.YtcgkgaibomcheaaGreat.PRvemuRuns
open Go.RowKit YtcgkgaibomcheaaGreatW.PrintWords YtcgkgaibomcheaaGreatW.PrintLast YtcgkgaibomcheaaGreatW.PrintMore
attribute [local go_sem] max2_int min2_int max_two min_two max_three min_three max_four min_four
def ravelinref15_Rows.f  : Option ((List (S59))) := some (([(⟨1, 1, 55, 0, 0, (⟨#[108, 117, 105]⟩ : ByteArray)⟩ : S59), (⟨2, 2, 19, 0, 0, (⟨#[97, 100, 100, 105]⟩ : ByteArray)⟩ : S59), (⟨3, 2, 27, 0, 0, (⟨#[97, 100, 100, 105, 119]⟩ : ByteArray)⟩ : S59), (⟨6, 2, 19, 4, 0, (⟨#[120, 111, 114, 105]⟩ : ByteArray)⟩ : S59), (⟨5, 2, 19, 6, 0, (⟨#[111, 114, 105]⟩ : ByteArray)⟩ : S59), (⟨4, 2, 19, 7, 0, (⟨#[97, 110, 100, 105]⟩ : ByteArray)⟩ : S59), (⟨12, 2, 3, 2, 0, (⟨#[108, 119]⟩ : ByteArray)⟩ : S59), (⟨11, 2, 3, 3, 0, (⟨#[108, 100]⟩ : ByteArray)⟩ : S59), (⟨13, 2, 3, 6, 0, (⟨#[108, 119, 117]⟩ : ByteArray)⟩ : S59), (⟨34, 2, 103, 0, 0, (⟨#[106, 97, 108, 114]⟩ : ByteArray)⟩ : S59), (⟨7, 3, 19, 1, 0, (⟨#[115, 108, 108, 105]⟩ : ByteArray)⟩ : S59), (⟨8, 3, 19, 5, 0, (⟨#[115, 114, 108, 105]⟩ : ByteArray)⟩ : S59), (⟨9, 4, 27, 1, 0, (⟨#[115, 108, 108, 105, 119]⟩ : ByteArray)⟩ : S59), (⟨10, 4, 27, 5, 0, (⟨#[115, 114, 108, 105, 119]⟩ : ByteArray)⟩ : S59), (⟨15, 5, 35, 2, 0, (⟨#[115, 119]⟩ : ByteArray)⟩ : S59), (⟨14, 5, 35, 3, 0, (⟨#[115, 100]⟩ : ByteArray)⟩ : S59), (⟨16, 6, 51, 0, 0, (⟨#[97, 100, 100]⟩ : ByteArray)⟩ : S59), (⟨17, 6, 51, 0, 32, (⟨#[115, 117, 98]⟩ : ByteArray)⟩ : S59), (⟨21, 6, 51, 1, 0, (⟨#[115, 108, 108]⟩ : ByteArray)⟩ : S59), (⟨20, 6, 51, 4, 0, (⟨#[120, 111, 114]⟩ : ByteArray)⟩ : S59), (⟨22, 6, 51, 5, 0, (⟨#[115, 114, 108]⟩ : ByteArray)⟩ : S59), (⟨19, 6, 51, 6, 0, (⟨#[111, 114]⟩ : ByteArray)⟩ : S59), (⟨18, 6, 51, 7, 0, (⟨#[97, 110, 100]⟩ : ByteArray)⟩ : S59), (⟨23, 6, 59, 0, 0, (⟨#[97, 100, 100, 119]⟩ : ByteArray)⟩ : S59), (⟨24, 6, 59, 0, 32, (⟨#[115, 117, 98, 119]⟩ : ByteArray)⟩ : S59), (⟨27, 6, 59, 1, 0, (⟨#[115, 108, 108, 119]⟩ : ByteArray)⟩ : S59), (⟨28, 6, 59, 5, 0, (⟨#[115, 114, 108, 119]⟩ : ByteArray)⟩ : S59), (⟨25, 6, 59, 0, 1, (⟨#[109, 117, 108, 119]⟩ : ByteArray)⟩ : S59), (⟨26, 6, 59, 5, 1, (⟨#[100, 105, 118, 117, 119]⟩ : ByteArray)⟩ : S59), (⟨29, 7, 99, 0, 0, (⟨#[98, 101, 113]⟩ : ByteArray)⟩ : S59), (⟨30, 7, 99, 1, 0, (⟨#[98, 110, 101]⟩ : ByteArray)⟩ : S59), (⟨31, 7, 99, 6, 0, (⟨#[98, 108, 116, 117]⟩ : ByteArray)⟩ : S59), (⟨32, 7, 99, 7, 0, (⟨#[98, 103, 101, 117]⟩ : ByteArray)⟩ : S59), (⟨33, 8, 111, 0, 0, (⟨#[106, 97, 108]⟩ : ByteArray)⟩ : S59)] : List (S59)))
def rowsL : List S59 := ([(⟨1, 1, 55, 0, 0, (⟨#[108, 117, 105]⟩ : ByteArray)⟩ : S59), (⟨2, 2, 19, 0, 0, (⟨#[97, 100, 100, 105]⟩ : ByteArray)⟩ : S59), (⟨3, 2, 27, 0, 0, (⟨#[97, 100, 100, 105, 119]⟩ : ByteArray)⟩ : S59), (⟨6, 2, 19, 4, 0, (⟨#[120, 111, 114, 105]⟩ : ByteArray)⟩ : S59), (⟨5, 2, 19, 6, 0, (⟨#[111, 114, 105]⟩ : ByteArray)⟩ : S59), (⟨4, 2, 19, 7, 0, (⟨#[97, 110, 100, 105]⟩ : ByteArray)⟩ : S59), (⟨12, 2, 3, 2, 0, (⟨#[108, 119]⟩ : ByteArray)⟩ : S59), (⟨11, 2, 3, 3, 0, (⟨#[108, 100]⟩ : ByteArray)⟩ : S59), (⟨13, 2, 3, 6, 0, (⟨#[108, 119, 117]⟩ : ByteArray)⟩ : S59), (⟨34, 2, 103, 0, 0, (⟨#[106, 97, 108, 114]⟩ : ByteArray)⟩ : S59), (⟨7, 3, 19, 1, 0, (⟨#[115, 108, 108, 105]⟩ : ByteArray)⟩ : S59), (⟨8, 3, 19, 5, 0, (⟨#[115, 114, 108, 105]⟩ : ByteArray)⟩ : S59), (⟨9, 4, 27, 1, 0, (⟨#[115, 108, 108, 105, 119]⟩ : ByteArray)⟩ : S59), (⟨10, 4, 27, 5, 0, (⟨#[115, 114, 108, 105, 119]⟩ : ByteArray)⟩ : S59), (⟨15, 5, 35, 2, 0, (⟨#[115, 119]⟩ : ByteArray)⟩ : S59), (⟨14, 5, 35, 3, 0, (⟨#[115, 100]⟩ : ByteArray)⟩ : S59), (⟨16, 6, 51, 0, 0, (⟨#[97, 100, 100]⟩ : ByteArray)⟩ : S59), (⟨17, 6, 51, 0, 32, (⟨#[115, 117, 98]⟩ : ByteArray)⟩ : S59), (⟨21, 6, 51, 1, 0, (⟨#[115, 108, 108]⟩ : ByteArray)⟩ : S59), (⟨20, 6, 51, 4, 0, (⟨#[120, 111, 114]⟩ : ByteArray)⟩ : S59), (⟨22, 6, 51, 5, 0, (⟨#[115, 114, 108]⟩ : ByteArray)⟩ : S59), (⟨19, 6, 51, 6, 0, (⟨#[111, 114]⟩ : ByteArray)⟩ : S59), (⟨18, 6, 51, 7, 0, (⟨#[97, 110, 100]⟩ : ByteArray)⟩ : S59), (⟨23, 6, 59, 0, 0, (⟨#[97, 100, 100, 119]⟩ : ByteArray)⟩ : S59), (⟨24, 6, 59, 0, 32, (⟨#[115, 117, 98, 119]⟩ : ByteArray)⟩ : S59), (⟨27, 6, 59, 1, 0, (⟨#[115, 108, 108, 119]⟩ : ByteArray)⟩ : S59), (⟨28, 6, 59, 5, 0, (⟨#[115, 114, 108, 119]⟩ : ByteArray)⟩ : S59), (⟨25, 6, 59, 0, 1, (⟨#[109, 117, 108, 119]⟩ : ByteArray)⟩ : S59), (⟨26, 6, 59, 5, 1, (⟨#[100, 105, 118, 117, 119]⟩ : ByteArray)⟩ : S59), (⟨29, 7, 99, 0, 0, (⟨#[98, 101, 113]⟩ : ByteArray)⟩ : S59), (⟨30, 7, 99, 1, 0, (⟨#[98, 110, 101]⟩ : ByteArray)⟩ : S59), (⟨31, 7, 99, 6, 0, (⟨#[98, 108, 116, 117]⟩ : ByteArray)⟩ : S59), (⟨32, 7, 99, 7, 0, (⟨#[98, 103, 101, 117]⟩ : ByteArray)⟩ : S59), (⟨33, 8, 111, 0, 0, (⟨#[106, 97, 108]⟩ : ByteArray)⟩ : S59)] : List (S59))
def cells59 (x : S59) : List Value := [.int .i64 x.f0, .int .i64 x.f1, .int .u32 x.f2, .int .u32 x.f3, .int .u32 x.f4, .string x.f5]
theorem reps59 (w : World) (b : Nat) (ok : Nat → Prop) : ∀ xs : List S59, Reps (k59.M w b ok) 6 xs (xs.flatMap cells59)
  | [] => Reps.none _ _
  | x :: xs => Reps.c6 (k59_mkM _ _ _ x) (reps59 w b ok xs)
set_option maxHeartbeats 1000000 in
set_option maxRecDepth 100000 in
theorem ravelinref15_Rows.calls (r : List S59) (w : World) (h : ravelinref15_Rows.f = some r) :
    Calls Tryz.prog 47 #[] w fun e w' => ∃ v0_ : Value, e = .returned (v0_) ∧ Kd.R k59 59 w' w.heap.size (fun _ => True) v0_ r ∧ Below w.heap.size w w' := by
  obtain rfl : rowsL = r := Option.some.inj h
  clear h
  go_enter Tryz.func47, Tryz.ntmps47
  go_wp2_with (first | ((with_reducible refine gate_dst (N := 35) rfl ?_); refine Kd.R_lit k59 _ 59 ?hg (N := 35) ?hd (xs := rowsL) (inner := rowsL.flatMap cells59) (ok := fun _ => True) (okp := fun _ => True) ?hr ?hp (fun _ hk => hk) trivial (Below.refl _ _) (Nat.le_refl _) (by decide) ?_; (case hd => rfl); (case hg => rfl); (case hp => exact reps59 _ _ _ _); (case hr => kernel_rfl); (intro v1 w1 ho hb hx hy); clear hx hy; have HO := Aside0.mk ho; have HB := Aside0.mk hb; clear ho hb))
  go_ret
  exact ⟨_, rfl, HO.out, HB.out⟩
end Go.Proofs.YtcgkgaibomcheaaGreat.PRvemuRuns
end
