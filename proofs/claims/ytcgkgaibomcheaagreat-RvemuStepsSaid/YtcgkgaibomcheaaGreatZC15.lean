/- Joined out of this claim's texts: PBits, PDec, EFetch. Conditions: those of each theorem. -/
import Derived.Test.YtcgkgaibomcheaaGreatZC01
import Derived.Test.YtcgkgaibomcheaaGreatZC12
import Derived.Test.YtcgkgaibomcheaaGreatZC14
import Derived.Test.YtcgkgaibomcheaaGreatZC13
import Derived.Test.YtcgkgaibomcheaaGreatZC04
import Derived.StillTailTactics
import Derived.Test.YtcgkgaibomcheaaGreatZC10
import Derived.Test.YtcgkgaibomcheaaGreatZC07
set_option linter.unusedVariables false
set_option linter.unusedSimpArgs false
section
namespace Go.Proofs.YtcgkgaibomcheaaGreat.PBits
open Go.RowKit Dec Enc
def maskOf (n : Nat) : Nat := if formOf n = 1 ∨ formOf n = 8 then 127 else if formOf n = 6 ∨ formOf n = 4 then 4261441663 else if formOf n = 3 then 4227887231 else 28799
def bitsOf (n : Nat) : Nat := if formOf n = 1 ∨ formOf n = 8 then codeOf n else codeOf n + f3Of n * 4096 + f7Of n * 33554432
theorem and32 (a b : Nat) (ha : a < 2 ^ 32) (hb : b < 2 ^ 32) : Go.bits .and .u32 (a : Int) (b : Int) = ((a &&& b : Nat) : Int) := by
  show IntKind.u32.wrap (((BitVec.ofInt 32 (a : Int) &&& BitVec.ofInt 32 (b : Int)).toNat : Nat) : Int) = _
  rw [BitVec.ofInt_natCast, BitVec.ofInt_natCast, BitVec.toNat_and, BitVec.toNat_ofNat, BitVec.toNat_ofNat, Nat.mod_eq_of_lt (by omega), Nat.mod_eq_of_lt (by omega)]
  have h := Nat.and_lt_two_pow a hb
  simp only [IntKind.wrap, IntKind.bits, IntKind.signed, Bool.false_and, Bool.false_eq_true, if_false]
  omega
theorem bits_eq : ∀ i : Fin 34, formOf (i.1 + 1) ≠ 1 → formOf (i.1 + 1) ≠ 8 → Go.bits .or .u32 (Go.bits .or .u32 (codeOf (i.1 + 1) : Nat) (((f3Of (i.1 + 1) : Nat) : Int) * 4096)) (((f7Of (i.1 + 1) : Nat) : Int) * 33554432) = (bitsOf (i.1 + 1) : Nat) := by decide +kernel
theorem f7_no : ∀ i : Fin 34, formOf (i.1 + 1) ≠ 6 → f7Of (i.1 + 1) = 0 := by decide
theorem mask3 (w b : Nat) (hb : b = 25 ∨ b = 26) (hw : w < 4294967296) : w &&& ((2 ^ 7 - 1) <<< 0 ||| (2 ^ 3 - 1) <<< 12 ||| (2 ^ (32 - b) - 1) <<< b) = w % 128 + w / 4096 % 8 * 4096 + w / 2 ^ b * 2 ^ b := by
  rw [Nat.and_or_distrib_left, Nat.and_or_distrib_left, W32.and_mid, W32.and_mid, W32.and_mid, Nat.shiftLeft_zero, Nat.shiftRight_zero, W32.or_up (d := w % 2 ^ 7) (k := 12) (by omega), Nat.shiftRight_eq_div_pow, Nat.shiftRight_eq_div_pow, W32.or_up]
  · congr 2
    have : w / 2 ^ b < 2 ^ (32 - b) := by
      rw [Nat.div_lt_iff_lt_mul (Nat.pow_pos (by decide)), ← Nat.pow_add, show 32 - b + b = 32 by omega]
      exact hw
    exact Nat.mod_eq_of_lt this
  · rcases hb with rfl | rfl <;> omega
theorem mask_hit (n w : Nat) (h0 : 1 ≤ n) (h1 : n ≤ 34) (hw : w < 4294967296) : (w &&& maskOf n = bitsOf n) ↔ hit n w = true := by
  obtain ⟨f1, f8, fc, f3, f7⟩ := form_in h0 h1
  have z7 := f7_no ⟨n - 1, by omega⟩
  simp only [show n - 1 + 1 = n by omega] at z7
  unfold maskOf bitsOf hit midOk topOk
  have e1 : w &&& 127 = w % 128 := W32.and_low w
  have e2 := W32.mask_i w
  have e3 := mask3 w 25 (.inl rfl) hw
  have e4 := mask3 w 26 (.inr rfl) hw
  rw [show ((2 ^ 7 - 1) <<< 0 ||| (2 ^ 3 - 1) <<< 12 ||| (2 ^ (32 - 25) - 1) <<< 25 : Nat) = 4261441663 by decide] at e3
  rw [show ((2 ^ 7 - 1) <<< 0 ||| (2 ^ 3 - 1) <<< 12 ||| (2 ^ (32 - 26) - 1) <<< 26 : Nat) = 4227887231 by decide] at e4
  have hf : formOf n = 1 ∨ formOf n = 2 ∨ formOf n = 3 ∨ formOf n = 4 ∨ formOf n = 5 ∨ formOf n = 6 ∨ formOf n = 7 ∨ formOf n = 8 := by omega
  rcases hf with hf | hf | hf | hf | hf | hf | hf | hf <;> simp [hf, e1, e2, e3, e4] <;> (try rw [z7 (by omega)]) <;> omega
end Go.Proofs.YtcgkgaibomcheaaGreat.PBits
end

section
namespace Go.Proofs.YtcgkgaibomcheaaGreat.PDec
open Go.RowKit Bits Dec Enc Mb RDec PRows PMeth PBits PRvemuRuns YtcgkgaibomcheaaGreatW.PrintWords YtcgkgaibomcheaaGreatW.PrintLast YtcgkgaibomcheaaGreatW.PrintMore
structure Base (w W : World) (wd : Nat) : Prop where
  wd : W.heap[w.heap.size]? = some (.cells #[.int .u32 (wd : Int)] 37 (0, 0))
  res : W.heap[w.heap.size + 1]? = some (.cells #[.int .i64 0, .int .i64 0, .int .i64 0, .int .i64 0, .int .i64 0] 42 (0, 0))
  tab : W.heap[w.heap.size + 1 + 1]? = some (.cells cellsAll.toArray 115 (0, 0))
  low : Below w.heap.size w W
theorem Base.below {w W W' : World} {wd : Nat} (h : Base w W wd) (hb : Below W.heap.size W W') : Base w W' wd := ⟨blk_below h.wd hb, blk_below h.res hb, blk_below h.tab hb, below_step h.low hb⟩
theorem fixed_n (n : Nat) (h0 : 1 ≤ n) (h1 : n ≤ 34) (w : World) : Calls Tryz.prog 101 #[.agg #[.int .i64 (n : Int), .string (nmOf n), .iface (tyOf (formOf n)) (fvOf (formOf n)), .int .u32 (codeOf n : Nat), .int .u32 (f3Of n : Nat), .int .u32 (f7Of n : Nat)]] w fun e w' => e = .returned (.tuple #[.int .u32 ((bitsOf n : Nat) : Int), .int .u32 ((maskOf n : Nat) : Int)]) ∧ Below w.heap.size w w' := by
  obtain ⟨f1, f8, fc, f3, f7⟩ := form_in h0 h1
  have hb := bits_eq ⟨n - 1, by omega⟩
  simp only [show n - 1 + 1 = n by omega] at hb
  have c0 : (0 : Int) ≤ (codeOf n : Nat) := by omega
  have c1 : ((codeOf n : Nat) : Int) < 128 := by omega
  have c2 : (0 : Int) ≤ (f3Of n : Nat) := by omega
  have c3 : ((f3Of n : Nat) : Int) < 8 := by omega
  have c4 : (0 : Int) ≤ (f7Of n : Nat) := by omega
  have c5 : ((f7Of n : Nat) : Int) < 128 := by omega
  unfold maskOf
  have hf : formOf n = 1 ∨ formOf n = 2 ∨ formOf n = 3 ∨ formOf n = 4 ∨ formOf n = 5 ∨ formOf n = 6 ∨ formOf n = 7 ∨ formOf n = 8 := by omega
  rcases hf with hf | hf | hf | hf | hf | hf | hf | hf
  · have e : bitsOf n = codeOf n := by unfold bitsOf; rw [if_pos (.inl hf)]
    rw [e, hf]
    exact PFix.fixed_133 _ _ _ _ _ c0 c1 c2 c3 c4 c5 w
  · rw [← hb (by omega) (by omega), hf]
    exact PFix.fixed_134 _ _ _ _ _ c0 c1 c2 c3 c4 c5 w
  · rw [← hb (by omega) (by omega), hf]
    exact PFix.fixed_1366 _ _ _ _ _ c0 c1 c2 c3 c4 c5 w
  · rw [← hb (by omega) (by omega), hf]
    exact PFix.fixed_1365 _ _ _ _ _ c0 c1 c2 c3 c4 c5 w
  · rw [← hb (by omega) (by omega), hf]
    exact PFix.fixed_137 _ _ _ _ _ c0 c1 c2 c3 c4 c5 w
  · rw [← hb (by omega) (by omega), hf]
    exact PFix.fixed_138 _ _ _ _ _ c0 c1 c2 c3 c4 c5 w
  · rw [← hb (by omega) (by omega), hf]
    exact PFix.fixed_139 _ _ _ _ _ c0 c1 c2 c3 c4 c5 w
  · have e : bitsOf n = codeOf n := by unfold bitsOf; rw [if_pos (.inr hf)]
    rw [e, hf]
    exact PFix.fixed_140 _ _ _ _ _ c0 c1 c2 c3 c4 c5 w
theorem eight {P : Nat → Prop} (form : Nat) (f1 : 1 ≤ form) (f8 : form ≤ 8) (h1 : P 1) (h2 : P 2) (h3 : P 3) (h4 : P 4) (h5 : P 5) (h6 : P 6) (h7 : P 7) (h8 : P 8) : P form := by
  have hf : form = 1 ∨ form = 2 ∨ form = 3 ∨ form = 4 ∨ form = 5 ∨ form = 6 ∨ form = 7 ∨ form = 8 := by omega
  rcases hf with rfl | rfl | rfl | rfl | rfl | rfl | rfl | rfl <;> assumption
theorem names_f (form : Nat) (f1 : 1 ≤ form) (f8 : form ≤ 8) : ∀ w, Calls Tryz.prog (fnN form) #[fvOf form] w fun e w' => e = .returned (.tuple #[.bool (nd form), .bool (ns form), .bool (nt form)]) ∧ Below w.heap.size w w' :=
  eight (P := fun form => ∀ w, Calls Tryz.prog (fnN form) #[fvOf form] w fun e w' => e = .returned (.tuple #[.bool (nd form), .bool (ns form), .bool (nt form)]) ∧ Below w.heap.size w w') form f1 f8 names_1 names_2 names_3 names_4 names_5 names_6 names_7 names_8
theorem signed_f (form : Nat) (f1 : 1 ≤ form) (f8 : form ≤ 8) : ∀ w, Calls Tryz.prog (fnS form) #[fvOf form] w fun e w' => e = .returned (.int .i64 ((sgOf form : Nat) : Int)) ∧ Below w.heap.size w w' :=
  eight (P := fun form => ∀ w, Calls Tryz.prog (fnS form) #[fvOf form] w fun e w' => e = .returned (.int .i64 ((sgOf form : Nat) : Int)) ∧ Below w.heap.size w w') form f1 f8 signed_1 signed_2 signed_3 signed_4 signed_5 signed_6 signed_7 signed_8
theorem pieces_f (form : Nat) (f1 : 1 ≤ form) (f8 : form ≤ 8) : ∀ w, Calls Tryz.prog (fnP form) #[fvOf form] w fun e w' => ∃ A, e = .returned (.slice A (psOf form).length (psOf form).length) ∧ Pc w' A (psOf form) ∧ Below w.heap.size w w' :=
  eight (P := fun form => ∀ w, Calls Tryz.prog (fnP form) #[fvOf form] w fun e w' => ∃ A, e = .returned (.slice A (psOf form).length (psOf form).length) ∧ Pc w' A (psOf form) ∧ Below w.heap.size w w') form f1 f8 pieces_1 pieces_2 pieces_3 pieces_4 pieces_5 pieces_6 pieces_7 pieces_8
theorem meth_f (form : Nat) (f1 : 1 ≤ form) (f8 : form ≤ 8) : ∀ W : World, (method 259 (tyOf form) (fvOf form) "ravelin/rv.names").run Tryz.prog W = .ok (fnN form, fvOf form) W ∧ (method 259 (tyOf form) (fvOf form) "ravelin/rv.pieces").run Tryz.prog W = .ok (fnP form, fvOf form) W ∧ (method 259 (tyOf form) (fvOf form) "ravelin/rv.signed").run Tryz.prog W = .ok (fnS form, fvOf form) W := by
  refine eight (P := fun form => ∀ W : World, (method 259 (tyOf form) (fvOf form) "ravelin/rv.names").run Tryz.prog W = .ok (fnN form, fvOf form) W ∧ (method 259 (tyOf form) (fvOf form) "ravelin/rv.pieces").run Tryz.prog W = .ok (fnP form, fvOf form) W ∧ (method 259 (tyOf form) (fvOf form) "ravelin/rv.signed").run Tryz.prog W = .ok (fnS form, fvOf form) W) form f1 f8 ?_ ?_ ?_ ?_ ?_ ?_ ?_ ?_ <;> exact fun W => ⟨by kernel_rfl, by kernel_rfl, by kernel_rfl⟩
theorem ent_f (form : Nat) (f1 : 1 ≤ form) (f8 : form ≤ 8) : ∀ (args : Array Value) (W : World), (callFunc (fnN form) args).run Tryz.prog W = .ok (.enter (fnN form) args) W ∧ (callFunc (fnP form) args).run Tryz.prog W = .ok (.enter (fnP form) args) W ∧ (callFunc (fnS form) args).run Tryz.prog W = .ok (.enter (fnS form) args) W := by
  refine eight (P := fun form => ∀ (args : Array Value) (W : World), (callFunc (fnN form) args).run Tryz.prog W = .ok (.enter (fnN form) args) W ∧ (callFunc (fnP form) args).run Tryz.prog W = .ok (.enter (fnP form) args) W ∧ (callFunc (fnS form) args).run Tryz.prog W = .ok (.enter (fnS form) args) W) form f1 f8 ?_ ?_ ?_ ?_ ?_ ?_ ?_ ?_ <;> exact fun args W => ⟨by kernel_rfl, by kernel_rfl, by kernel_rfl⟩
theorem Base.put {w W : World} {wd g : Nat} (h : Base w W wd) (hg : w.heap.size + 1 + 1 < g) (u0 u1 u2 u3 u4 : Value) : Base w (put5 W g u0 u1 u2 u3 u4) wd :=
  ⟨(put5_far _ _ _ _ _ (by omega)).trans h.wd, (put5_far _ _ _ _ _ (by omega)).trans h.res, (put5_far _ _ _ _ _ (by omega)).trans h.tab, put5_below _ _ _ _ _ h.low (by omega)⟩
theorem Base.set {w W : World} {wd g : Nat} (h : Base w W wd) (hg : w.heap.size + 1 + 1 < g) (j : Nat) (u : Value) : Base w (W.setCell ⟨g, j, none⟩ u) wd :=
  ⟨(Below.heap_setCell _ _ _ _ (by simp only; omega)).trans h.wd, (Below.heap_setCell _ _ _ _ (by simp only; omega)).trans h.res, (Below.heap_setCell _ _ _ _ (by simp only; omega)).trans h.tab, h.low.setCell (p := ⟨g, j, none⟩) (by simp only; omega) u⟩
def accB (wd : Nat) (ps : List (Nat × Nat × Nat)) : BitVec 64 := ps.foldl (fun v p => v ||| (bs (BitVec.ofNat 64 wd) (p.2.2 : Nat) (p.2.1 : Nat)) <<< p.1) 0#64
theorem acc_snoc (wd : Nat) (ps : List (Nat × Nat × Nat)) (j : Nat) (hj : j < ps.length) : accB wd (ps.take (j + 1)) = accB wd (ps.take j) ||| (bs (BitVec.ofNat 64 wd) ((ps.getD j (0, 0, 0)).2.2 : Nat) ((ps.getD j (0, 0, 0)).2.1 : Nat)) <<< (ps.getD j (0, 0, 0)).1 := by
  unfold accB
  rw [List.take_succ_eq_append_getElem hj, List.foldl_append, List.foldl_cons, List.foldl_nil, List.getD_eq_getElem?_getD, List.getElem?_eq_getElem hj]
  rfl
theorem bs_w (wd at_ n : Nat) (hw : wd < 4294967296) (ha : at_ ≤ 63) (hn : n ≤ 63) : (bs (BitVec.ofNat 64 wd) (at_ : Int) (n : Int)).toNat = wd / 2 ^ at_ % 2 ^ n := by
  rw [Part.bs_nat _ _ _ ha hn, BitVec.toNat_ofNat, Nat.mod_eq_of_lt (show wd < 2 ^ 64 by omega)]
theorem sh_w (wd at_ n lo : Nat) (hw : wd < 4294967296) (ha : at_ ≤ 63) (hn : n + lo ≤ 63) : ((bs (BitVec.ofNat 64 wd) (at_ : Int) (n : Int)) <<< lo).toNat = (wd / 2 ^ at_ % 2 ^ n) <<< lo := by
  rw [BitVec.toNat_shiftLeft, bs_w wd at_ n hw ha (by omega), Nat.mod_eq_of_lt]
  rw [Nat.shiftLeft_eq]
  have h1 : wd / 2 ^ at_ % 2 ^ n < 2 ^ n := Nat.mod_lt _ (Nat.pow_pos (by decide))
  have h2 : (2 : Nat) ^ n * 2 ^ lo ≤ 2 ^ 63 := by rw [← Nat.pow_add]; exact Nat.pow_le_pow_right (by decide) hn
  have h3 := Nat.mul_lt_mul_of_pos_right h1 (Nat.pow_pos (n := lo) (show 0 < 2 by decide))
  omega
theorem acc_nat {form wd : Nat} (f1 : 1 ≤ form) (f8 : form ≤ 8) (hw : wd < 4294967296) : (accB wd (psOf form)).toNat = immV form wd := by
  have hs := fun (at_ n lo : Nat) (ha : at_ ≤ 63) (hn : n + lo ≤ 63) => sh_w wd at_ n lo hw ha hn
  revert f1 f8
  refine fun f1 f8 => eight (P := fun form => (accB wd (psOf form)).toNat = immV form wd) form f1 f8 ?_ ?_ ?_ ?_ ?_ ?_ ?_ ?_
  · show (0#64 ||| (bs (BitVec.ofNat 64 wd) ((12 : Nat) : Int) ((20 : Nat) : Int)) <<< 0).toNat = _
    rw [BitVec.toNat_or, hs 12 20 0 (by omega) (by omega)]
    simp [immV]
  · show (0#64 ||| (bs (BitVec.ofNat 64 wd) ((20 : Nat) : Int) ((12 : Nat) : Int)) <<< 0).toNat = _
    rw [BitVec.toNat_or, hs 20 12 0 (by omega) (by omega)]
    simp [immV]
  · show (0#64 ||| (bs (BitVec.ofNat 64 wd) ((20 : Nat) : Int) ((6 : Nat) : Int)) <<< 0).toNat = _
    rw [BitVec.toNat_or, hs 20 6 0 (by omega) (by omega)]
    simp [immV]
  · show (0#64 ||| (bs (BitVec.ofNat 64 wd) ((20 : Nat) : Int) ((5 : Nat) : Int)) <<< 0).toNat = _
    rw [BitVec.toNat_or, hs 20 5 0 (by omega) (by omega)]
    simp [immV]
  · show ((0#64 ||| (bs (BitVec.ofNat 64 wd) ((7 : Nat) : Int) ((5 : Nat) : Int)) <<< 0) ||| (bs (BitVec.ofNat 64 wd) ((25 : Nat) : Int) ((7 : Nat) : Int)) <<< 5).toNat = _
    rw [BitVec.toNat_or, BitVec.toNat_or, hs 7 5 0 (by omega) (by omega), hs 25 7 5 (by omega) (by omega)]
    have h := W32.or_up (d := wd / 128 % 32) (k := 5) (r := wd / 33554432 % 128) (by omega)
    simpa [immV] using h
  · rfl
  · show ((((0#64 ||| (bs (BitVec.ofNat 64 wd) ((8 : Nat) : Int) ((4 : Nat) : Int)) <<< 1) ||| (bs (BitVec.ofNat 64 wd) ((25 : Nat) : Int) ((6 : Nat) : Int)) <<< 5) ||| (bs (BitVec.ofNat 64 wd) ((7 : Nat) : Int) ((1 : Nat) : Int)) <<< 11) ||| (bs (BitVec.ofNat 64 wd) ((31 : Nat) : Int) ((1 : Nat) : Int)) <<< 12).toNat = _
    rw [BitVec.toNat_or, BitVec.toNat_or, BitVec.toNat_or, BitVec.toNat_or, hs 8 4 1 (by omega) (by omega), hs 25 6 5 (by omega) (by omega), hs 7 1 11 (by omega) (by omega), hs 31 1 12 (by omega) (by omega)]
    have b1 : wd / 256 % 16 < 16 := by omega
    have b2 : wd / 33554432 % 64 < 64 := by omega
    have b3 : wd / 128 % 2 < 2 := by omega
    show (((0 ||| (wd / 256 % 16) <<< 1) ||| (wd / 33554432 % 64) <<< 5) ||| (wd / 128 % 2) <<< 11) ||| (wd / 2147483648 % 2) <<< 12 = wd / 256 % 16 * 2 + wd / 33554432 % 64 * 32 + wd / 128 % 2 * 2048 + wd / 2147483648 % 2 * 4096
    generalize wd / 256 % 16 = x1 at *
    generalize wd / 33554432 % 64 = x2 at *
    generalize wd / 128 % 2 = x3 at *
    generalize wd / 2147483648 % 2 = x4 at *
    rw [Nat.zero_or, Nat.shiftLeft_eq, W32.or_up (d := x1 * 2 ^ 1) (k := 5) (by omega), W32.or_up (d := x1 * 2 ^ 1 + x2 * 2 ^ 5) (k := 11) (by omega), W32.or_up (k := 12) (by omega)]
  · show ((((0#64 ||| (bs (BitVec.ofNat 64 wd) ((21 : Nat) : Int) ((10 : Nat) : Int)) <<< 1) ||| (bs (BitVec.ofNat 64 wd) ((20 : Nat) : Int) ((1 : Nat) : Int)) <<< 11) ||| (bs (BitVec.ofNat 64 wd) ((12 : Nat) : Int) ((8 : Nat) : Int)) <<< 12) ||| (bs (BitVec.ofNat 64 wd) ((31 : Nat) : Int) ((1 : Nat) : Int)) <<< 20).toNat = _
    rw [BitVec.toNat_or, BitVec.toNat_or, BitVec.toNat_or, BitVec.toNat_or, hs 21 10 1 (by omega) (by omega), hs 20 1 11 (by omega) (by omega), hs 12 8 12 (by omega) (by omega), hs 31 1 20 (by omega) (by omega)]
    have b1 : wd / 2097152 % 1024 < 1024 := by omega
    have b2 : wd / 1048576 % 2 < 2 := by omega
    have b3 : wd / 4096 % 256 < 256 := by omega
    show (((0 ||| (wd / 2097152 % 1024) <<< 1) ||| (wd / 1048576 % 2) <<< 11) ||| (wd / 4096 % 256) <<< 12) ||| (wd / 2147483648 % 2) <<< 20 = wd / 2097152 % 1024 * 2 + wd / 1048576 % 2 * 2048 + wd / 4096 % 256 * 4096 + wd / 2147483648 % 2 * 1048576
    generalize wd / 2097152 % 1024 = x1 at *
    generalize wd / 1048576 % 2 = x2 at *
    generalize wd / 4096 % 256 = x3 at *
    generalize wd / 2147483648 % 2 = x4 at *
    rw [Nat.zero_or, Nat.shiftLeft_eq, W32.or_up (d := x1 * 2 ^ 1) (k := 11) (by omega), W32.or_up (d := x1 * 2 ^ 1 + x2 * 2 ^ 11) (k := 12) (by omega), W32.or_up (k := 20) (by omega)]
theorem immV_lt (form wd : Nat) : immV form wd < 2097152 := by
  unfold immV
  repeat' split
  all_goals omega
theorem acc_imm {n wd : Nat} (f1 : 1 ≤ formOf n) (f8 : formOf n ≤ 8) (hw : wd < 4294967296) : (sgOf (formOf n) = 0 → wrap64 (U (accB wd (psOf (formOf n)))) = immOf (formOf n) wd) ∧ (sgOf (formOf n) ≠ 0 → (sx (accB wd (psOf (formOf n))) ((sgOf (formOf n) : Nat) : Int)).toInt = immOf (formOf n) wd) := by
  have hn := acc_nat f1 f8 hw
  have hl := immV_lt (formOf n) wd
  have hU : U (accB wd (psOf (formOf n))) = ((immV (formOf n) wd : Nat) : Int) := by unfold U; rw [hn]
  have hB : accB wd (psOf (formOf n)) = BitVec.ofInt 64 ((immV (formOf n) wd : Nat) : Int) := by
    apply BitVec.eq_of_toNat_eq
    rw [hn, BitVec.ofInt_natCast, BitVec.toNat_ofNat, Nat.mod_eq_of_lt (show immV (formOf n) wd < 2 ^ 64 by omega)]
  rw [hU, hB]
  generalize formOf n = f at *
  clear hU hB hn
  revert hl
  refine eight (P := fun f => immV f wd < 2097152 → (sgOf f = 0 → wrap64 ((immV f wd : Nat) : Int) = immOf f wd) ∧ (sgOf f ≠ 0 → (sx (BitVec.ofInt 64 ((immV f wd : Nat) : Int)) ((sgOf f : Nat) : Int)).toInt = immOf f wd)) f f1 f8 ?_ ?_ ?_ ?_ ?_ ?_ ?_ ?_ <;> intro hl
  · exact ⟨fun _ => Tk.w64 _ (by omega) (by omega), fun h => absurd rfl h⟩
  · exact ⟨fun h => absurd h (by decide), fun _ => Tk.sx_sgn _ 12 2048 (by omega) (by omega) rfl (by have : immV 2 wd = wd / 1048576 % 4096 := rfl; omega)⟩
  · exact ⟨fun _ => Tk.w64 _ (by omega) (by omega), fun h => absurd rfl h⟩
  · exact ⟨fun _ => Tk.w64 _ (by omega) (by omega), fun h => absurd rfl h⟩
  · exact ⟨fun h => absurd h (by decide), fun _ => Tk.sx_sgn _ 12 2048 (by omega) (by omega) rfl (by have : immV 5 wd = wd / 128 % 32 + (wd / 33554432 % 128) * 32 := rfl; omega)⟩
  · exact ⟨fun _ => Tk.w64 _ (by omega) (by omega), fun h => absurd rfl h⟩
  · exact ⟨fun h => absurd h (by decide), fun _ => Tk.sx_sgn _ 13 4096 (by omega) (by omega) rfl (by have : immV 7 wd = (wd / 256 % 16) * 2 + (wd / 33554432 % 64) * 32 + (wd / 128 % 2) * 2048 + (wd / 2147483648 % 2) * 4096 := rfl; omega)⟩
  · exact ⟨fun h => absurd h (by decide), fun _ => Tk.sx_sgn _ 21 1048576 (by omega) (by omega) rfl (by omega)⟩
theorem goesV_ {P : Program} {ops : Array Oper} {Q : Exit → Act → World → Prop} {oi : Oper} {N : Option Tmp} {a : Act} {w : World} {K : Act → World → Prop} {f : FuncId} {fn : Func} {xs : Array Operand} {ts : Array TypeId} (hf : P.funcs[f]? = some fn) (hname : (fn.name == "runtime.NumGoroutine") = false) (hb : fn.body.isSome = true) (args cap : Array Value) (x : Tmp)
    (hw : Region.wanted oi (yielded ops a.tmps) = true) (hN : oi.dst = N) (hop : oi.op = .call { callee := .value (.tmp x), args := xs, argTypes := ts }) (hx : a.eval (.tmp x) = .func (.func f) #[] cap) (hargs : xs.map a.eval ++ cap = args)
    (h : Calls P f args w fun e w' => ∃ v, e = .returned v ∧ K (a.put N v) w') : if Region.wanted oi (yielded ops a.tmps) = true then Oper.wp P oi a w K Q else K (a.put N undef) w := by
  refine call_ f args hw hN ?_ h
  have he := enters_ hf hname hb args w
  unfold execOp
  simp [hop, resolve, Deferred.ofValue, invoke, hx, hargs, he]
set_option maxRecDepth 20000 in
theorem field (g wd : Nat) (b : Bool) (at_ : Nat) (l2 : Nat) (hl : 2 ^ at_ = l2) (h20 : at_ ≤ 20) (hw : wd < 4294967296) (w : World) (h : w.heap[g]? = some (.cells #[.int .u32 (wd : Int)] 37 (0, 0))) :
    Calls Tryz.prog 102 #[.bool b, .int .i64 (at_ : Int), .pointer (some ⟨g, 0, none⟩)] w fun e w' => e = .returned (.int .i64 (((if b = true then wd / l2 % 32 else 0 : Nat)) : Int)) ∧ w' = w := by
  have x0 := blk_cell h 0
  simp only [List.getElem?_toArray, List.getElem?_cons_zero] at x0
  cases b
  · go_enter Tryz.func102, Tryz.ntmps102
    go_wp2
    go_ret
    exact ⟨rfl, rfl⟩
  · have q0 : (0 : Int) ≤ (at_ : Int) := by omega
    go_enter Tryz.func102, Tryz.ntmps102
    go_wp2
    all_goals
      go_ret
      refine ⟨congrArg (fun z => Ending.returned (.int .i64 z)) ?_, rfl⟩
      have e : (wd : Int) / 2 ^ at_ = ((wd / l2 : Nat) : Int) := by rw [← hl]; simp
      have hq : wd / l2 ≤ wd := Nat.div_le_self _ _
      have e2 := and32 (wd / l2) 31 (by omega) (by omega)
      have e3 : (wd / l2) &&& 31 = wd / l2 % 32 := Nat.and_two_pow_sub_one_eq_mod _ 5
      rw [e3] at e2
      show wrap64 (Go.bits .and .u32 ((wd : Int) / 2 ^ at_) 31) = _
      rw [e]
      refine (congrArg wrap64 e2).trans ?_
      refine Eq.trans (b := ((wd / l2 % 32 : Nat) : Int)) ?_ (by first | (simp; done) | (rw [if_pos rfl]; done) | rfl)
      have hm : wd / l2 % 32 < 32 := Nat.mod_lt _ (by decide)
      generalize wd / l2 % 32 = q at hm ⊢
      clear e e2 e3 hq hl
      unfold wrap64
      omega
set_option maxRecDepth 20000 in
set_option maxHeartbeats 4000000 in
theorem decode (wd : Nat) (hw : wd < 4294967296) (w : World) : Calls Tryz.prog 84 #[.int .u32 (wd : Int)] w fun e w' => e = .returned (decV wd) ∧ Below w.heap.size w w' := by
  have HB := Aside0.mk (show Base w (((w.alloc (.cells #[.int .u32 (wd : Int)] 37)).alloc (.cells #[.int .i64 0, .int .i64 0, .int .i64 0, .int .i64 0, .int .i64 0] 42)).alloc (.cells cellsAll.toArray 115)) wd from
    ⟨blk_alloc (blk_alloc (blk_new _ _) _) _, blk_alloc (Do.new1 _ _ _ (by simp only [World.size_alloc])) _, Do.new1 _ _ _ (by simp only [World.size_alloc]), below_alloc (below_alloc (below_alloc (Below.refl _ _) _) _) _⟩)
  go_enter Tryz.func84, Tryz.ntmps84
  go_wp2_with fail
  refine (rows _).mono ?_
  rintro e w1 ⟨rfl, rfl⟩
  go_wp2_with fail
  go_loopw [19] (fun v19 W => ∃ i : Nat, v19 = .int .i64 (i : Int) ∧ i ≤ 34 ∧ Aside0 (∀ n : Nat, 1 ≤ n → n < i + 1 → hit n wd = false) ∧ Aside0 (Base w W wd)) (fun v19 _ => 34 - (intOf v19).toNat)
  case atStart => exact ⟨0, rfl, by omega, ⟨fun n h0 hn => absurd hn (by omega)⟩, HB⟩
  case round =>
    clear HB
    obtain ⟨i, rfl, hi, HN, HB⟩ := hrel
    by_cases hlt : i < 34
    · have c0 := (blk_cell HB.out.tab (i * 6)).trans (cells_at (i + 1) 0 (by omega) (by omega) (by omega))
      have c1 := (blk_cell HB.out.tab (i * 6 + 1)).trans (cells_at (i + 1) 1 (by omega) (by omega) (by omega))
      have c2 := (blk_cell HB.out.tab (i * 6 + 2)).trans (cells_at (i + 1) 2 (by omega) (by omega) (by omega))
      have c3 := (blk_cell HB.out.tab (i * 6 + 3)).trans (cells_at (i + 1) 3 (by omega) (by omega) (by omega))
      have c4 := (blk_cell HB.out.tab (i * 6 + 4)).trans (cells_at (i + 1) 4 (by omega) (by omega) (by omega))
      have c5 := (blk_cell HB.out.tab (i * 6 + 5)).trans (cells_at (i + 1) 5 (by omega) (by omega) (by omega))
      have FX := fun W => fixed_n (i + 1) (by omega) (by omega) W
      have HH := Aside0.mk (mask_hit (i + 1) wd (by omega) (by omega) hw)
      obtain ⟨f1, f8, fc_, f3_, f7_⟩ := form_in (n := i + 1) (by omega) (by omega)
      clear fc_ f3_ f7_
      have HI := Aside0.mk hi
      obtain ⟨n, hn⟩ : ∃ n, i + 1 = n := ⟨_, rfl⟩
      have HNN := Aside0.mk hn
      simp only [cellsOf, List.getElem?_cons_zero, List.getElem?_cons_succ] at c0 c1 c2 c3 c4 c5
      rw [hn] at c0 c1 c2 c3 c4 c5 FX HH f1 f8
      clear hn
      have AM := and32 wd (maskOf n) (by omega) (by unfold maskOf; split; omega; split; omega; split <;> omega)
      obtain ⟨am, ham⟩ : ∃ am, wd &&& maskOf n = am := ⟨_, rfl⟩
      rw [ham] at AM HH
      clear ham
      go_wp2_with fail
      refine (FX _).mono ?_
      rintro e w2 ⟨rfl, hb2⟩
      have HB2 := Aside0.mk (HB.out.below (below_step (below_alloc (Below.refl _ _) _) hb2))
      have HT := Aside0.mk (blk_below (blk_new wr (.cells #[.int .i64 (n : Int), .string (nmOf n), .iface (tyOf (formOf n)) (fvOf (formOf n)), .int .u32 ((codeOf n : Nat) : Int), .int .u32 ((f3Of n : Nat) : Int), .int .u32 ((f7Of n : Nat) : Int)] 115)) hb2)
      have HG := Aside0.mk (below_size HB.out.low)
      generalize wr.heap.size = g5 at *
      clear hb2 HB c0 c1 c2 c3 c4 c5 FX
      have z0 := blk_cell HB2.out.wd 0
      simp only [List.getElem?_toArray, List.getElem?_cons_zero, List.getElem?_cons_succ] at z0
      by_cases hh : hit n wd = true
      · have ht : (((am : Nat) : Int) != ((bitsOf n : Nat) : Int)) = false := by rw [bne_eq_false_iff_eq]; have := HH.out.2 hh; omega
        have hdv := Aside0.mk (decV_yes (wd := wd) (n := n) (by have := HNN.out; omega) (by have := HNN.out; omega) hh)
        have mN : ∀ W : World, (method 259 (tyOf (formOf n)) (fvOf (formOf n)) "ravelin/rv.names").run Tryz.prog W = .ok (fnN (formOf n), fvOf (formOf n)) W := fun W => (meth_f _ f1 f8 W).1
        have eN : ∀ (args : Array Value) (W : World), (callFunc (fnN (formOf n)) args).run Tryz.prog W = .ok (.enter (fnN (formOf n)) args) W := fun args W => (ent_f _ f1 f8 args W).1
        have z2 := blk_cell HT.out 2
        simp only [List.getElem?_toArray, List.getElem?_cons_zero, List.getElem?_cons_succ] at z2
        clear HH HN hh
        go_wp2_with fail
        refine (names_f (formOf n) f1 f8 _).mono ?_
        rintro e w3 ⟨rfl, hb3⟩
        have HB3 := Aside0.mk (HB2.out.below hb3)
        have HT3 := Aside0.mk (blk_below HT.out hb3)
        clear HB2 HT hb3 mN eN z0 z2 AM ht
        go_wp2_with fail
        have HWD : w3.drew.heap[w.heap.size]? = some (.cells #[.int .u32 (wd : Int)] 37 (0, 0)) := HB3.out.wd
        have ed : (if nd (formOf n) = true then wd / 128 % 32 else 0) = fdOf n wd := by unfold fdOf nd; by_cases c1 : formOf n = 5 <;> by_cases c2 : formOf n = 7 <;> simp [c1, c2]
        have es : (if ns (formOf n) = true then wd / 32768 % 32 else 0) = fs1Of n wd := by unfold fs1Of ns; by_cases c1 : formOf n = 1 <;> by_cases c2 : formOf n = 8 <;> simp [c1, c2]
        have et : (if nt (formOf n) = true then wd / 1048576 % 32 else 0) = fs2Of n wd := by unfold fs2Of nt; simp
        have F1 : ∀ W : World, W.heap[w.heap.size]? = some (.cells #[.int .u32 (wd : Int)] 37 (0, 0)) → Calls Tryz.prog 102 #[.bool (nd (formOf n)), .int .i64 7, .pointer (some ⟨w.heap.size, 0, none⟩)] W fun e w' => e = .returned (.int .i64 ((fdOf n wd : Nat) : Int)) ∧ w' = W := fun W h => ed ▸ field w.heap.size wd (nd (formOf n)) 7 128 rfl (by omega) hw W h
        have F2 : ∀ W : World, W.heap[w.heap.size]? = some (.cells #[.int .u32 (wd : Int)] 37 (0, 0)) → Calls Tryz.prog 102 #[.bool (ns (formOf n)), .int .i64 15, .pointer (some ⟨w.heap.size, 0, none⟩)] W fun e w' => e = .returned (.int .i64 ((fs1Of n wd : Nat) : Int)) ∧ w' = W := fun W h => es ▸ field w.heap.size wd (ns (formOf n)) 15 32768 rfl (by omega) hw W h
        have F3 : ∀ W : World, W.heap[w.heap.size]? = some (.cells #[.int .u32 (wd : Int)] 37 (0, 0)) → Calls Tryz.prog 102 #[.bool (nt (formOf n)), .int .i64 20, .pointer (some ⟨w.heap.size, 0, none⟩)] W fun e w' => e = .returned (.int .i64 ((fs2Of n wd : Nat) : Int)) ∧ w' = W := fun W h => et ▸ field w.heap.size wd (nt (formOf n)) 20 1048576 rfl (by omega) hw W h
        clear ed es et
        have x0 : w3.drew.cell? ⟨g5, 0, none⟩ = some (.int .i64 (n : Int)) := (blk_cell HT3.out 0).trans rfl
        have HLB := Aside0.mk (show g5 ≠ w3.heap.size from by have := blk_lt HT3.out; omega)
        have HWA : (w3.alloc (.cells #[.int .i64 0, .int .i64 0, .int .i64 0, .int .i64 0, .int .i64 0] 42)).drew.heap[w.heap.size]? = some (.cells #[.int .u32 (wd : Int)] 37 (0, 0)) := blk_alloc HB3.out.wd _
        have xA : (w3.alloc (.cells #[.int .i64 0, .int .i64 0, .int .i64 0, .int .i64 0, .int .i64 0] 42)).drew.cell? ⟨g5, 0, none⟩ = some (.int .i64 (n : Int)) := kA _ ((blk_cell HT3.out 0).trans rfl)
        have LA : Below w3.heap.size w3 (w3.alloc (.cells #[.int .i64 0, .int .i64 0, .int .i64 0, .int .i64 0, .int .i64 0] 42)).drew := below_drew1 (below_alloc (Below.refl _ _) _)
        have MA : (w3.alloc (.cells #[.int .i64 0, .int .i64 0, .int .i64 0, .int .i64 0, .int .i64 0] 42)).drew.heap[w3.heap.size]? = some (.cells #[.int .i64 0, .int .i64 0, .int .i64 0, .int .i64 0, .int .i64 0] 42 (0, 0)) := blk_new w3 _
        refine start_ (n := 14) (S := fun w' => w'.cell? ⟨g5, 0, none⟩ = some (.int .i64 (n : Int))) (ds := []) #[vF,vF,vF,vF,vF,vF,vF,vF,vF,vF,vF,vF,vF,vF] (by kernel_rfl) rfl rfl (x0) (fun hHeld => ?_)
        refine pure_ (i := 0) (N := some 41) (v := ?_) (a' := ?_) #[vT,vF,vF,vF,vF,vF,vF,vF,vF,vF,vF,vF,vF,vF] rfl rfl (by kernel_rfl) (fun _ _ _ h => h) (Or.inl ⟨by rfl, ?_⟩) ?_ ?_
        rotate_left
        · intro w'; go_simp; with_reducible rfl
        rotate_left
        · simp only [Act.put, List.setIfInBounds_toArray, List.set, i64_w, i32_w]
          rfl
        refine pure_ (i := 2) (N := some 43) (v := ?_) (a' := ?_) #[vT,vF,vT,vF,vF,vF,vF,vF,vF,vF,vF,vF,vF,vF] rfl rfl (by kernel_rfl) (fun _ _ _ h => h) (Or.inl ⟨by rfl, ?_⟩) ?_ ?_
        rotate_left
        · intro w'; go_simp; with_reducible rfl
        rotate_left
        · simp only [Act.put, List.setIfInBounds_toArray, List.set, i64_w, i32_w]
          rfl
        refine pure_ (i := 3) (N := some 44) (v := ?_) (a' := ?_) #[vT,vF,vT,vT,vF,vF,vF,vF,vF,vF,vF,vF,vF,vF] rfl rfl (by kernel_rfl) (fun _ _ _ h => h) (Or.inl ⟨by rfl, ?_⟩) ?_ ?_
        rotate_left
        · intro w'; go_simp; with_reducible rfl
        rotate_left
        · simp only [Act.put, List.setIfInBounds_toArray, List.set, i64_w, i32_w]
          rfl
        refine pure_ (i := 5) (N := some 46) (v := ?_) (a' := ?_) #[vT,vF,vT,vT,vF,vT,vF,vF,vF,vF,vF,vF,vF,vF] rfl rfl (by kernel_rfl) (fun _ _ _ h => h) (Or.inl ⟨by rfl, ?_⟩) ?_ ?_
        rotate_left
        · intro w'; go_simp; with_reducible rfl
        rotate_left
        · simp only [Act.put, List.setIfInBounds_toArray, List.set, i64_w, i32_w]
          rfl
        refine pure_ (i := 6) (N := some 47) (v := ?_) (a' := ?_) #[vT,vF,vT,vT,vF,vT,vT,vF,vF,vF,vF,vF,vF,vF] rfl rfl (by kernel_rfl) (fun _ _ _ h => h) (Or.inl ⟨by rfl, ?_⟩) ?_ ?_
        rotate_left
        · intro w'; go_simp; with_reducible rfl
        rotate_left
        · simp only [Act.put, List.setIfInBounds_toArray, List.set, i64_w, i32_w]
          rfl
        refine pure_ (i := 8) (N := some 49) (v := ?_) (a' := ?_) #[vT,vF,vT,vT,vF,vT,vT,vF,vT,vF,vF,vF,vF,vF] rfl rfl (by kernel_rfl) (fun _ _ _ h => h) (Or.inl ⟨by rfl, ?_⟩) ?_ ?_
        rotate_left
        · intro w'; go_simp; with_reducible rfl
        rotate_left
        · simp only [Act.put, List.setIfInBounds_toArray, List.set, i64_w, i32_w]
          rfl
        refine pure_ (i := 9) (N := some 50) (v := ?_) (a' := ?_) #[vT,vF,vT,vT,vF,vT,vT,vF,vT,vT,vF,vF,vF,vF] rfl rfl (by kernel_rfl) (fun _ _ _ h => h) (Or.inl ⟨by rfl, ?_⟩) ?_ ?_
        rotate_left
        · intro w'; go_simp; with_reducible rfl
        rotate_left
        · simp only [Act.put, List.setIfInBounds_toArray, List.set, i64_w, i32_w]
          rfl
        refine take_ (i := 1) (N := some 42) (v := ?_) (a' := ?_) #[vT,vT,vT,vT,vF,vT,vT,vF,vT,vT,vF,vF,vF,vF] rfl rfl (by kernel_rfl) (fun _ _ _ h => h) (Or.inl ⟨by rfl, ?_⟩) hHeld ?_ ?_
        rotate_left
        · intro w' s0
          go_simp
          with_reducible rfl
        rotate_left
        · simp only [Act.put, List.setIfInBounds_toArray, List.set, i64_w, i32_w]
          rfl
        refine join_ (σ := Unit) 1 #[vT,vT,vT,vT,vT,vT,vT,vT,vT,vT,vT,vT,vT,vF] (fun _ => [(45, Value.int .i64 ((fdOf n wd : Nat) : Int)), (48, Value.int .i64 ((fs1Of n wd : Nat) : Int)), (51, Value.int .i64 ((fs2Of n wd : Nat) : Int)), (52, Value.agg #[.int .i64 (n : Int), .int .i64 ((fdOf n wd : Nat) : Int), .int .i64 ((fs1Of n wd : Nat) : Int), .int .i64 ((fs2Of n wd : Nat) : Int), .int .i64 0]), (12, Value.pointer (some ⟨w3.heap.size, 0, none⟩))]) (fun _ w' => Below w3.heap.size w3 w' ∧ w'.heap[w3.heap.size]? = some (.cells #[.int .i64 0, .int .i64 0, .int .i64 0, .int .i64 0, .int .i64 0] 42 (0, 0))) ?_ ?_
        rotate_left
        · intro hCont
          refine two_ (i := 4) (j := 12) (Ni := some 45) (Nj := some 12) #[vT,vT,vT,vT,vT,vT,vT,vF,vT,vT,vF,vF,vF,vF] #[vT,vT,vT,vT,vF,vT,vT,vF,vT,vT,vF,vF,vT,vF] rfl rfl rfl rfl (by kernel_rfl) (by decide) (by decide) (fun K hK => ?_) (fun K hK => ?_)
          · skip
            refine goesV_ (P := Tryz.prog) Tryz.func102 (by kernel_rfl) rfl #[.bool (nd (formOf n)), .int .i64 7, .pointer (some ⟨w.heap.size, 0, none⟩)] #[.pointer (some ⟨w.heap.size, 0, none⟩)] 43 (by rfl) rfl rfl rfl (by (try simp only [List.map_toArray, List.map_cons, List.map_nil]); rfl) ?_
            with_reducible refine (F1 _ HWD).mono ?_
            rintro e w9 ⟨rfl, rfl⟩
            refine ⟨_, rfl, ?_⟩
            refine hK.out _ _ (x0) (fun hHeld => ?_)
            clear hK K
            refine norm_ (a' := ?_) ?_ ?_
            rotate_left
            · show Act.put _ (some 45) _ = _; simp only [Act.put, List.setIfInBounds_toArray, List.set, i64_w, i32_w]; rfl
            refine two_ (i := 7) (j := 12) (Ni := some 48) (Nj := some 12) #[vT,vT,vT,vT,vT,vT,vT,vT,vT,vT,vF,vF,vF,vF] #[vT,vT,vT,vT,vT,vT,vT,vF,vT,vT,vF,vF,vT,vF] rfl rfl rfl rfl (by kernel_rfl) (by decide) (by decide) (fun K hK => ?_) (fun K hK => ?_)
            · skip
              refine goesV_ (P := Tryz.prog) Tryz.func102 (by kernel_rfl) rfl #[.bool (ns (formOf n)), .int .i64 15, .pointer (some ⟨w.heap.size, 0, none⟩)] #[.pointer (some ⟨w.heap.size, 0, none⟩)] 46 (by rfl) rfl rfl rfl (by (try simp only [List.map_toArray, List.map_cons, List.map_nil]); rfl) ?_
              with_reducible refine (F2 _ HWD).mono ?_
              rintro e w9 ⟨rfl, rfl⟩
              refine ⟨_, rfl, ?_⟩
              refine hK.out _ _ (x0) (fun hHeld => ?_)
              clear hK K
              refine norm_ (a' := ?_) ?_ ?_
              rotate_left
              · show Act.put _ (some 48) _ = _; simp only [Act.put, List.setIfInBounds_toArray, List.set, i64_w, i32_w]; rfl
              refine two_ (i := 10) (j := 12) (Ni := some 51) (Nj := some 12) #[vT,vT,vT,vT,vT,vT,vT,vT,vT,vT,vT,vF,vF,vF] #[vT,vT,vT,vT,vT,vT,vT,vT,vT,vT,vF,vF,vT,vF] rfl rfl rfl rfl (by kernel_rfl) (by decide) (by decide) (fun K hK => ?_) (fun K hK => ?_)
              · skip
                refine goesV_ (P := Tryz.prog) Tryz.func102 (by kernel_rfl) rfl #[.bool (nt (formOf n)), .int .i64 20, .pointer (some ⟨w.heap.size, 0, none⟩)] #[.pointer (some ⟨w.heap.size, 0, none⟩)] 49 (by rfl) rfl rfl rfl (by (try simp only [List.map_toArray, List.map_cons, List.map_nil]); rfl) ?_
                with_reducible refine (F3 _ HWD).mono ?_
                rintro e w9 ⟨rfl, rfl⟩
                refine ⟨_, rfl, ?_⟩
                refine hK.out _ _ (x0) (fun hHeld => ?_)
                clear hK K
                refine norm_ (a' := ?_) ?_ ?_
                rotate_left
                · show Act.put _ (some 51) _ = _; simp only [Act.put, List.setIfInBounds_toArray, List.set, i64_w, i32_w]; rfl
                refine pure_ (i := 11) (N := some 52) (v := ?_) (a' := ?_) #[vT,vT,vT,vT,vT,vT,vT,vT,vT,vT,vT,vT,vF,vF] rfl rfl (by kernel_rfl) (fun _ _ _ h => h) (Or.inl ⟨by rfl, ?_⟩) ?_ ?_
                rotate_left
                · intro w'; go_simp; with_reducible rfl
                rotate_left
                · simp only [Act.put, List.setIfInBounds_toArray, List.set, i64_w, i32_w]
                  rfl
                refine one_ (i := 12) (N := some 12) #[vT,vT,vT,vT,vT,vT,vT,vT,vT,vT,vT,vT,vT,vF] rfl rfl (by kernel_rfl) (by decide) (fun K hK => ?_)
                refine value_ (w1 := ?_) (v := ?_) (by rfl) rfl ?_ ?_
                rotate_left 2
                · go_simp
                  constructor
                  · rfl
                  · rfl
                refine hK.out _ _ (xA) (fun hHeld => ?_)
                clear hK K
                refine norm_ (a' := ?_) ?_ ?_
                rotate_left
                · show Act.put _ (some 12) _ = _; simp only [Act.put, List.setIfInBounds_toArray, List.set, i64_w, i32_w]; rfl
                exact norm_ (by simp only [putAll, Act.put, List.setIfInBounds_toArray, List.set]) (hCont () _ ⟨LA, MA⟩)
              · skip
                refine value_ (w1 := ?_) (v := ?_) (by rfl) rfl ?_ ?_
                rotate_left 2
                · go_simp
                  constructor
                  · rfl
                  · rfl
                refine hK.out _ _ (xA) (fun hHeld => ?_)
                clear hK K
                refine norm_ (a' := ?_) ?_ ?_
                rotate_left
                · show Act.put _ (some 12) _ = _; simp only [Act.put, List.setIfInBounds_toArray, List.set, i64_w, i32_w]; rfl
                refine one_ (i := 10) (N := some 51) #[vT,vT,vT,vT,vT,vT,vT,vT,vT,vT,vT,vF,vT,vF] rfl rfl (by kernel_rfl) (by decide) (fun K hK => ?_)
                refine goesV_ (P := Tryz.prog) Tryz.func102 (by kernel_rfl) rfl #[.bool (nt (formOf n)), .int .i64 20, .pointer (some ⟨w.heap.size, 0, none⟩)] #[.pointer (some ⟨w.heap.size, 0, none⟩)] 49 (by rfl) rfl rfl rfl (by (try simp only [List.map_toArray, List.map_cons, List.map_nil]); rfl) ?_
                with_reducible refine (F3 _ HWA).mono ?_
                rintro e w9 ⟨rfl, rfl⟩
                refine ⟨_, rfl, ?_⟩
                refine hK.out _ _ (xA) (fun hHeld => ?_)
                clear hK K
                refine norm_ (a' := ?_) ?_ ?_
                rotate_left
                · show Act.put _ (some 51) _ = _; simp only [Act.put, List.setIfInBounds_toArray, List.set, i64_w, i32_w]; rfl
                refine pure_ (i := 11) (N := some 52) (v := ?_) (a' := ?_) #[vT,vT,vT,vT,vT,vT,vT,vT,vT,vT,vT,vT,vT,vF] rfl rfl (by kernel_rfl) (fun _ _ _ h => h) (Or.inl ⟨by rfl, ?_⟩) ?_ ?_
                rotate_left
                · intro w'; go_simp; with_reducible rfl
                rotate_left
                · simp only [Act.put, List.setIfInBounds_toArray, List.set, i64_w, i32_w]
                  rfl
                exact norm_ (by simp only [putAll, Act.put, List.setIfInBounds_toArray, List.set]) (hCont () _ ⟨LA, MA⟩)
            · skip
              refine value_ (w1 := ?_) (v := ?_) (by rfl) rfl ?_ ?_
              rotate_left 2
              · go_simp
                constructor
                · rfl
                · rfl
              refine hK.out _ _ (xA) (fun hHeld => ?_)
              clear hK K
              refine norm_ (a' := ?_) ?_ ?_
              rotate_left
              · show Act.put _ (some 12) _ = _; simp only [Act.put, List.setIfInBounds_toArray, List.set, i64_w, i32_w]; rfl
              refine one_ (i := 7) (N := some 48) #[vT,vT,vT,vT,vT,vT,vT,vT,vT,vT,vF,vF,vT,vF] rfl rfl (by kernel_rfl) (by decide) (fun K hK => ?_)
              refine goesV_ (P := Tryz.prog) Tryz.func102 (by kernel_rfl) rfl #[.bool (ns (formOf n)), .int .i64 15, .pointer (some ⟨w.heap.size, 0, none⟩)] #[.pointer (some ⟨w.heap.size, 0, none⟩)] 46 (by rfl) rfl rfl rfl (by (try simp only [List.map_toArray, List.map_cons, List.map_nil]); rfl) ?_
              with_reducible refine (F2 _ HWA).mono ?_
              rintro e w9 ⟨rfl, rfl⟩
              refine ⟨_, rfl, ?_⟩
              refine hK.out _ _ (xA) (fun hHeld => ?_)
              clear hK K
              refine norm_ (a' := ?_) ?_ ?_
              rotate_left
              · show Act.put _ (some 48) _ = _; simp only [Act.put, List.setIfInBounds_toArray, List.set, i64_w, i32_w]; rfl
              refine one_ (i := 10) (N := some 51) #[vT,vT,vT,vT,vT,vT,vT,vT,vT,vT,vT,vF,vT,vF] rfl rfl (by kernel_rfl) (by decide) (fun K hK => ?_)
              refine goesV_ (P := Tryz.prog) Tryz.func102 (by kernel_rfl) rfl #[.bool (nt (formOf n)), .int .i64 20, .pointer (some ⟨w.heap.size, 0, none⟩)] #[.pointer (some ⟨w.heap.size, 0, none⟩)] 49 (by rfl) rfl rfl rfl (by (try simp only [List.map_toArray, List.map_cons, List.map_nil]); rfl) ?_
              with_reducible refine (F3 _ HWA).mono ?_
              rintro e w9 ⟨rfl, rfl⟩
              refine ⟨_, rfl, ?_⟩
              refine hK.out _ _ (xA) (fun hHeld => ?_)
              clear hK K
              refine norm_ (a' := ?_) ?_ ?_
              rotate_left
              · show Act.put _ (some 51) _ = _; simp only [Act.put, List.setIfInBounds_toArray, List.set, i64_w, i32_w]; rfl
              refine pure_ (i := 11) (N := some 52) (v := ?_) (a' := ?_) #[vT,vT,vT,vT,vT,vT,vT,vT,vT,vT,vT,vT,vT,vF] rfl rfl (by kernel_rfl) (fun _ _ _ h => h) (Or.inl ⟨by rfl, ?_⟩) ?_ ?_
              rotate_left
              · intro w'; go_simp; with_reducible rfl
              rotate_left
              · simp only [Act.put, List.setIfInBounds_toArray, List.set, i64_w, i32_w]
                rfl
              exact norm_ (by simp only [putAll, Act.put, List.setIfInBounds_toArray, List.set]) (hCont () _ ⟨LA, MA⟩)
          · skip
            refine value_ (w1 := ?_) (v := ?_) (by rfl) rfl ?_ ?_
            rotate_left 2
            · go_simp
              constructor
              · rfl
              · rfl
            refine hK.out _ _ (xA) (fun hHeld => ?_)
            clear hK K
            refine norm_ (a' := ?_) ?_ ?_
            rotate_left
            · show Act.put _ (some 12) _ = _; simp only [Act.put, List.setIfInBounds_toArray, List.set, i64_w, i32_w]; rfl
            refine one_ (i := 4) (N := some 45) #[vT,vT,vT,vT,vT,vT,vT,vF,vT,vT,vF,vF,vT,vF] rfl rfl (by kernel_rfl) (by decide) (fun K hK => ?_)
            refine goesV_ (P := Tryz.prog) Tryz.func102 (by kernel_rfl) rfl #[.bool (nd (formOf n)), .int .i64 7, .pointer (some ⟨w.heap.size, 0, none⟩)] #[.pointer (some ⟨w.heap.size, 0, none⟩)] 43 (by rfl) rfl rfl rfl (by (try simp only [List.map_toArray, List.map_cons, List.map_nil]); rfl) ?_
            with_reducible refine (F1 _ HWA).mono ?_
            rintro e w9 ⟨rfl, rfl⟩
            refine ⟨_, rfl, ?_⟩
            refine hK.out _ _ (xA) (fun hHeld => ?_)
            clear hK K
            refine norm_ (a' := ?_) ?_ ?_
            rotate_left
            · show Act.put _ (some 45) _ = _; simp only [Act.put, List.setIfInBounds_toArray, List.set, i64_w, i32_w]; rfl
            refine one_ (i := 7) (N := some 48) #[vT,vT,vT,vT,vT,vT,vT,vT,vT,vT,vF,vF,vT,vF] rfl rfl (by kernel_rfl) (by decide) (fun K hK => ?_)
            refine goesV_ (P := Tryz.prog) Tryz.func102 (by kernel_rfl) rfl #[.bool (ns (formOf n)), .int .i64 15, .pointer (some ⟨w.heap.size, 0, none⟩)] #[.pointer (some ⟨w.heap.size, 0, none⟩)] 46 (by rfl) rfl rfl rfl (by (try simp only [List.map_toArray, List.map_cons, List.map_nil]); rfl) ?_
            with_reducible refine (F2 _ HWA).mono ?_
            rintro e w9 ⟨rfl, rfl⟩
            refine ⟨_, rfl, ?_⟩
            refine hK.out _ _ (xA) (fun hHeld => ?_)
            clear hK K
            refine norm_ (a' := ?_) ?_ ?_
            rotate_left
            · show Act.put _ (some 48) _ = _; simp only [Act.put, List.setIfInBounds_toArray, List.set, i64_w, i32_w]; rfl
            refine one_ (i := 10) (N := some 51) #[vT,vT,vT,vT,vT,vT,vT,vT,vT,vT,vT,vF,vT,vF] rfl rfl (by kernel_rfl) (by decide) (fun K hK => ?_)
            refine goesV_ (P := Tryz.prog) Tryz.func102 (by kernel_rfl) rfl #[.bool (nt (formOf n)), .int .i64 20, .pointer (some ⟨w.heap.size, 0, none⟩)] #[.pointer (some ⟨w.heap.size, 0, none⟩)] 49 (by rfl) rfl rfl rfl (by (try simp only [List.map_toArray, List.map_cons, List.map_nil]); rfl) ?_
            with_reducible refine (F3 _ HWA).mono ?_
            rintro e w9 ⟨rfl, rfl⟩
            refine ⟨_, rfl, ?_⟩
            refine hK.out _ _ (xA) (fun hHeld => ?_)
            clear hK K
            refine norm_ (a' := ?_) ?_ ?_
            rotate_left
            · show Act.put _ (some 51) _ = _; simp only [Act.put, List.setIfInBounds_toArray, List.set, i64_w, i32_w]; rfl
            refine pure_ (i := 11) (N := some 52) (v := ?_) (a' := ?_) #[vT,vT,vT,vT,vT,vT,vT,vT,vT,vT,vT,vT,vT,vF] rfl rfl (by kernel_rfl) (fun _ _ _ h => h) (Or.inl ⟨by rfl, ?_⟩) ?_ ?_
            rotate_left
            · intro w'; go_simp; with_reducible rfl
            rotate_left
            · simp only [Act.put, List.setIfInBounds_toArray, List.set, i64_w, i32_w]
              rfl
            exact norm_ (by simp only [putAll, Act.put, List.setIfInBounds_toArray, List.set]) (hCont () _ ⟨LA, MA⟩)
        rintro _ w9 ⟨L9, M9⟩
        have hHeld : w9.cell? ⟨g5, 0, none⟩ = some (.int .i64 (n : Int)) := kB L9 x0
        have z0 := blk_cell M9 0
        have z1 := blk_cell M9 1
        have z2 := blk_cell M9 2
        have z3 := blk_cell M9 3
        have z4 := blk_cell M9 4
        simp only [List.getElem?_toArray, List.getElem?_cons_zero, List.getElem?_cons_succ] at z0 z1 z2 z3 z4
        have f0_ := blk_frozen M9 0
        have f1_ := blk_frozen M9 1
        have f2_ := blk_frozen M9 2
        have f3_ := blk_frozen M9 3
        have f4_ := blk_frozen M9 4
        refine norm_ (a' := ?_) ?_ ?_
        rotate_left
        · simp only [putAll, Act.put, List.setIfInBounds_toArray, List.set]
          rfl
        refine one_ (i := 13) (N := none) #[vT,vT,vT,vT,vT,vT,vT,vT,vT,vT,vT,vT,vT,vT] rfl rfl (by kernel_rfl) (by decide) (fun K hK => ?_)
        refine skip_ (w1 := ?_) (by rfl) rfl ?_ ?_
        rotate_left
        · go_simp
          rfl
        refine hK.out _ _ (kS5 (HLB.out) (hHeld)) (fun hHeld => ?_)
        clear hK K
        refine done_ (by kernel_rfl) ?_
        change Exit.then _ _ _ _ (put5 w9 w3.heap.size (.int .i64 (n : Int)) (.int .i64 ((fdOf n wd : Nat) : Int)) (.int .i64 ((fs1Of n wd : Nat) : Int)) (.int .i64 ((fs2Of n wd : Nat) : Int)) (.int .i64 0))
        have hg4 : w.heap.size + 1 + 1 < w3.heap.size := blk_lt HB3.out.tab
        have HZ := Aside0.mk (put5_block M9 (.int .i64 (n : Int)) (.int .i64 ((fdOf n wd : Nat) : Int)) (.int .i64 ((fs1Of n wd : Nat) : Int)) (.int .i64 ((fs2Of n wd : Nat) : Int)) (.int .i64 0))
        have HT4 := Aside0.mk ((put5_far (W := w9) (.int .i64 (n : Int)) (.int .i64 ((fdOf n wd : Nat) : Int)) (.int .i64 ((fs1Of n wd : Nat) : Int)) (.int .i64 ((fs2Of n wd : Nat) : Int)) (.int .i64 0) HLB.out).trans (blk_below HT3.out L9))
        have HB4 := Aside0.mk ((HB3.out.below L9).put (g := w3.heap.size) hg4 (.int .i64 (n : Int)) (.int .i64 ((fdOf n wd : Nat) : Int)) (.int .i64 ((fs1Of n wd : Nat) : Int)) (.int .i64 ((fs2Of n wd : Nat) : Int)) (.int .i64 0))
        have HL6 := Aside0.mk hg4
        clear hg4 z0 z1 z2 z3 z4 f0_ f1_ f2_ f3_ f4_ hHeld M9 L9 LA MA HWA xA HWD x0 HB3 HT3 F1 F2 F3
        generalize put5 w9 w3.heap.size (.int .i64 (n : Int)) (.int .i64 ((fdOf n wd : Nat) : Int)) (.int .i64 ((fs1Of n wd : Nat) : Int)) (.int .i64 ((fs2Of n wd : Nat) : Int)) (.int .i64 0) = W4 at HZ HT4 HB4 ⊢
        generalize w3.heap.size = g6 at HZ HL6 HLB ⊢
        have mP : ∀ W : World, (method 259 (tyOf (formOf n)) (fvOf (formOf n)) "ravelin/rv.pieces").run Tryz.prog W = .ok (fnP (formOf n), fvOf (formOf n)) W := fun W => (meth_f _ f1 f8 W).2.1
        have eP : ∀ (args : Array Value) (W : World), (callFunc (fnP (formOf n)) args).run Tryz.prog W = .ok (.enter (fnP (formOf n)) args) W := fun args W => (ent_f _ f1 f8 args W).2.1
        have z2 := blk_cell HT4.out 2
        simp only [List.getElem?_toArray, List.getElem?_cons_zero, List.getElem?_cons_succ] at z2
        have hU := Aside0.mk (show U (BitVec.ofNat 64 wd) = (wd : Int) from by unfold U; rw [BitVec.toNat_ofNat]; omega)
        go_wp2_with fail
        refine (pieces_f (formOf n) f1 f8 _).mono ?_
        rintro e w5 ⟨A, rfl, hpc, hb5⟩
        have HPC := Aside0.mk hpc
        have HZ5 := Aside0.mk (blk_below HZ.out hb5)
        have HT5 := Aside0.mk (blk_below HT4.out hb5)
        have HB5 := Aside0.mk (HB4.out.below hb5)
        have HAC := Aside0.mk (acc_imm (n := n) (wd := wd) f1 f8 hw)
        clear HZ HT4 HB4 mP eP z2 hpc hb5
        have mS : ∀ W : World, (method 259 (tyOf (formOf n)) (fvOf (formOf n)) "ravelin/rv.signed").run Tryz.prog W = .ok (fnS (formOf n), fvOf (formOf n)) W := fun W => (meth_f _ f1 f8 W).2.2
        have eS : ∀ (args : Array Value) (W : World), (callFunc (fnS (formOf n)) args).run Tryz.prog W = .ok (.enter (fnS (formOf n)) args) W := fun args W => (ent_f _ f1 f8 args W).2.2
        have HMS := Aside0.mk mS
        have HES := Aside0.mk eS
        have HSG := Aside0.mk (signed_f (formOf n) f1 f8)
        clear mS eS
        have HPL := Aside0.mk (show ∀ p ∈ psOf (formOf n), p.1 ≤ 31 ∧ p.2.1 ≤ 31 ∧ p.2.2 ≤ 31 from eight (P := fun f => ∀ p ∈ psOf f, p.1 ≤ 31 ∧ p.2.1 ≤ 31 ∧ p.2.2 ≤ 31) (formOf n) f1 f8 (by decide) (by decide) (by decide) (by decide) (by decide) (by decide) (by decide) (by decide))
        have HPN := Aside0.mk (show (psOf (formOf n)).length ≤ 4 from eight (P := fun f => (psOf f).length ≤ 4) (formOf n) f1 f8 (by decide) (by decide) (by decide) (by decide) (by decide) (by decide) (by decide) (by decide))
        clear f1 f8
        obtain ⟨ps, hps⟩ : ∃ ps, psOf (formOf n) = ps := ⟨_, rfl⟩
        have HPS := Aside0.mk hps
        rw [hps] at HPC HPL HPN ⊢
        clear hps
        go_wp2_with fail
        go_loopw [13, 57] (fun v13 v57 W => ∃ j : Nat, v57 = .int .i64 (j : Int) ∧ j ≤ ps.length ∧ v13 = .int .u64 (U (accB wd (ps.take j))) ∧ Aside0 (Pc W A ps) ∧ Aside0 (W.heap[g6]? = some (.cells #[.int .i64 (n : Int), .int .i64 ((fdOf n wd : Nat) : Int), .int .i64 ((fs1Of n wd : Nat) : Int), .int .i64 ((fs2Of n wd : Nat) : Int), .int .i64 0] 42 (0, 0))) ∧ Aside0 (W.heap[g5]? = some (.cells #[.int .i64 (n : Int), .string (nmOf n), .iface (tyOf (formOf n)) (fvOf (formOf n)), .int .u32 ((codeOf n : Nat) : Int), .int .u32 ((f3Of n : Nat) : Int), .int .u32 ((f7Of n : Nat) : Int)] 115 (0, 0))) ∧ Aside0 (Base w W wd)) (fun _ v57 _ => ps.length - (intOf v57).toNat)
        case atStart => exact ⟨0, rfl, by omega, rfl, HPC, HZ5, HT5, HB5⟩
        case round =>
          clear HPC HZ5 HT5 HB5
          obtain ⟨j, rfl, hj, rfl, HPC, HZ5, HT5, HB5⟩ := hrel
          by_cases hjl : j < ps.length
          · have hpj := HPL.out (ps.getD j (0, 0, 0)) (by rw [List.getD_eq_getElem?_getD, List.getElem?_eq_getElem hjl]; exact List.getElem_mem _)
            have hacc := Aside0.mk (show accB wd (ps.take (j + 1)) = accB wd (ps.take j) ||| (bs (BitVec.ofNat 64 wd) ((ps.getD j (0, 0, 0)).2.2 : Nat) ((ps.getD j (0, 0, 0)).2.1 : Nat)) <<< (ps.getD j (0, 0, 0)).1 from acc_snoc wd ps j hjl)
            rcases HPC.out with hnil | ⟨b, cs, rfl, hb, hcs⟩
            · rw [hnil] at hjl; exact absurd hjl (by simp)
            obtain ⟨r0, r1, r2⟩ := hcs j hjl
            have y0 := (blk_cell hb (j * 3)).trans r0
            have y1 := (blk_cell hb (j * 3 + 1)).trans r1
            have y2 := (blk_cell hb (j * 3 + 2)).trans r2
            have z0 := blk_cell HB5.out.wd 0
            simp only [List.getElem?_toArray, List.getElem?_cons_zero, List.getElem?_cons_succ] at z0
            obtain ⟨⟨lo, pn, pa⟩, hp⟩ : ∃ p, ps.getD j (0, 0, 0) = p := ⟨_, rfl⟩
            rw [hp] at y0 y1 y2 hacc hpj
            simp only at y0 y1 y2 hpj
            clear r0 r1 r2 hcs hb hp
            have BT : ∀ W, Calls Tryz.prog 103 #[.int .u64 (wd : Int), .int .i64 (pa : Int), .int .i64 (pn : Int)] W fun e w' => e = .returned (.int .u64 (U (bs (BitVec.ofNat 64 wd) (pa : Int) (pn : Int)))) ∧ Drawn0 W w' := fun W => hU.out ▸ word_Bits.calls (U (BitVec.ofNat 64 wd)) pa pn _ W (F1.word_Bits_eq _ _ _)
            have q0 : (0 : Int) ≤ (wd : Int) := by omega
            have q1 : (wd : Int) < 4294967296 := by omega
            have q2 : (0 : Int) ≤ (lo : Int) := by omega
            obtain ⟨bb, hbb⟩ : ∃ bb, bs (BitVec.ofNat 64 wd) (pa : Int) (pn : Int) = bb := ⟨_, rfl⟩
            rw [hbb] at hacc BT
            clear hbb
            obtain ⟨ac, hac⟩ : ∃ ac, accB wd (ps.take j) = ac := ⟨_, rfl⟩
            rw [hac] at hacc ⊢
            clear hac
            go_wp2_with fail
            have hb6 := below_alloc (Below.refl wr.heap.size wr) (.cells #[.int .i64 (lo : Int), .int .i64 (pn : Int), .int .i64 (pa : Int)] 123)
            have hn6 := blk_new wr (.cells #[.int .i64 (lo : Int), .int .i64 (pn : Int), .int .i64 (pa : Int)] 123)
            have HPC6 := Aside0.mk (HPC.out.below hb6)
            have HZ6 := Aside0.mk (blk_below HZ5.out hb6)
            have HT6 := Aside0.mk (blk_below HT5.out hb6)
            have HB6 := Aside0.mk (HB5.out.below hb6)
            clear z0 y0 y1 y2 HPC HZ5 HT5 HB5 hb6
            generalize wr.alloc (.cells #[.int .i64 (lo : Int), .int .i64 (pn : Int), .int .i64 (pa : Int)] 123) = W6 at hn6 HPC6 HZ6 HT6 HB6 ⊢
            have z0 := blk_cell HB6.out.wd 0
            have y0 := blk_cell hn6 0
            have y1 := blk_cell hn6 1
            have y2 := blk_cell hn6 2
            simp only [List.getElem?_toArray, List.getElem?_cons_zero, List.getElem?_cons_succ] at z0 y0 y1 y2
            generalize wr.heap.size = g15 at *
            clear hn6
            go_quiet (exact quiet0 BT)
            have hv : Go.bits .or .u64 (U ac) (IntKind.u64.wrap (U bb * 2 ^ lo)) = U (accB wd (ps.take (j + 1))) := by
              have h1 := shl_U bb (lo : Int)
              unfold shl at h1
              rw [show min ((lo : Int)).toNat IntKind.u64.bits = lo by show min ((lo : Int)).toNat 64 = lo; omega, Int.toNat_natCast] at h1
              rw [h1, or_U, hacc.out]
            rw [hv]
            have HPC7 := Aside0.mk (HPC6.out.below (pw_below_drewN (Below.refl _ _) nq))
            have HZ7 := Aside0.mk (blk_drewN HZ6.out nq)
            have HT7 := Aside0.mk (blk_drewN HT6.out nq)
            have HB7 := Aside0.mk (HB6.out.below (pw_below_drewN (Below.refl _ _) nq))
            clear HPC6 HZ6 HT6 HB6 hv hacc BT z0 y0 y1 y2
            generalize W6.drewN nq = W7 at *
            obtain ⟨ac2, hac2⟩ : ∃ ac2, accB wd (ps.take (j + 1)) = ac2 := ⟨_, rfl⟩
            have HAC2 := Aside0.mk hac2
            rw [hac2]
            clear hac2
            have hj4 : (j : Int) < 10 := by have := HPN.out; omega
            go_wp2_with fail
            go_roundw
            case rel => exact ⟨j + 1, by go_num, by omega, by rw [HAC2.out], HPC7, HZ7, HT7, HB7⟩
            case measure => simp [intOf]; omega
          · obtain rfl : j = ps.length := by omega
            rw [List.take_length]
            rw [HPS.out] at HAC
            obtain ⟨ac, hac⟩ : ∃ ac, accB wd ps = ac := ⟨_, rfl⟩
            rw [hac] at HAC ⊢
            clear hac
            have mS := HMS.out
            have eS := HES.out
            have y2 := blk_cell ((Below.heap_setCell wr ⟨g6, 4, none⟩ (.int .i64 (wrap64 (U ac))) g5 HLB.out).trans HT5.out) 2
            have HZ8 := Aside0.mk (blk_put (cs' := #[.int .i64 (n : Int), .int .i64 ((fdOf n wd : Nat) : Int), .int .i64 ((fs1Of n wd : Nat) : Int), .int .i64 ((fs2Of n wd : Nat) : Int), .int .i64 (wrap64 (U ac))]) HZ5.out 4 (.int .i64 (wrap64 (U ac))) rfl)
            have HB8 := Aside0.mk (HB5.out.set (g := g6) HL6.out 4 (.int .i64 (wrap64 (U ac))))
            have x4 := blk_cell HZ5.out 4
            have xf := blk_frozen HZ5.out 4
            have z2 := blk_cell HT5.out 2
            simp only [List.getElem?_toArray, List.getElem?_cons_zero, List.getElem?_cons_succ] at y2 x4 z2
            clear HPC HZ5 HT5 HB5 HMS HES
            go_wp2_with fail
            refine (HSG.out _).mono ?_
            rintro e w8 ⟨rfl, hb8⟩
            have HZ9 := Aside0.mk (blk_below HZ8.out hb8)
            have HB9 := Aside0.mk (HB8.out.below hb8)
            clear HZ8 HB8 hb8 x4 xf z2 y2 mS eS HSG
            have zr := HB9.out.res
            have hne := Aside0.mk (show w.heap.size + 1 ≠ g6 from by have := HL6.out; omega)
            have r0 := blk_cell zr 0
            have r1 := blk_cell zr 1
            have r2 := blk_cell zr 2
            have r3 := blk_cell zr 3
            have r4 := blk_cell zr 4
            have rf0 := blk_frozen zr 0
            have rf1 := blk_frozen zr 1
            have rf2 := blk_frozen zr 2
            have rf3 := blk_frozen zr 3
            have rf4 := blk_frozen zr 4
            have u0 := blk_cell HZ9.out 0
            have u1 := blk_cell HZ9.out 1
            have u2 := blk_cell HZ9.out 2
            have u3_ := blk_cell HZ9.out 3
            have u4_ := blk_cell HZ9.out 4
            simp only [List.getElem?_toArray, List.getElem?_cons_zero, List.getElem?_cons_succ] at r0 r1 r2 r3 r4 u0 u1 u2 u3_ u4_
            have HRES := Aside0.mk zr
            clear zr
            by_cases hs : sgOf (formOf n) = 0
            · have hi := HAC.out.1 hs
              rw [hs]
              rw [hi] at u4_
              have hDV := Aside0.mk hdv.out
              clear HAC hs hi
              go_wp2_with fail
              have HP := Aside0.mk (put5_block HRES.out (.int .i64 (n : Int)) (.int .i64 ((fdOf n wd : Nat) : Int)) (.int .i64 ((fs1Of n wd : Nat) : Int)) (.int .i64 ((fs2Of n wd : Nat) : Int)) (.int .i64 (immOf (formOf n) wd)))
              have HQ := Aside0.mk (put5_below (.int .i64 (n : Int)) (.int .i64 ((fdOf n wd : Nat) : Int)) (.int .i64 ((fs1Of n wd : Nat) : Int)) (.int .i64 ((fs2Of n wd : Nat) : Int)) (.int .i64 (immOf (formOf n) wd)) HB9.out.low (Nat.le_add_right w.heap.size 1))
              refine bodyPost_ret (results_ct rfl _ _ (w.heap.size + 1) 42 #[.int .i64 (n : Int), .int .i64 ((fdOf n wd : Nat) : Int), .int .i64 ((fs1Of n wd : Nat) : Int), .int .i64 ((fs2Of n wd : Nat) : Int), .int .i64 (immOf (formOf n) wd)] (0, 0) _ rfl HP.out Tryz.underlying42 rfl (by kernel_rfl)) rfl ?_
              exact ⟨by rw [hdv.out]; rfl, HQ.out⟩
            · have hi := HAC.out.2 hs
              have SX : ∀ W, Calls Tryz.prog 104 #[.int .u64 (U ac), .int .i64 ((sgOf (formOf n) : Nat) : Int)] W fun e w' => e = .returned (.int .i64 (immOf (formOf n) wd)) ∧ Below W.heap.size W w' := fun W => hi ▸ word_Sext.calls (U ac) _ _ W (F1.word_Sext_eq _ _)
              have hs0 : decide (((sgOf (formOf n) : Nat) : Int) > 0) = true := decide_eq_true (by omega)
              have hs1 : decide ((0 : Int) < ((sgOf (formOf n) : Nat) : Int)) = true := decide_eq_true (by omega)
              obtain ⟨sg, hsg⟩ : ∃ sg, sgOf (formOf n) = sg := ⟨_, rfl⟩
              have hs2 : 0 < sg := by omega
              have hs3 : decide (0 < sg) = true := decide_eq_true hs2
              rw [hsg] at SX hs0 hs1 ⊢
              clear HAC hs hi hsg
              go_wp2_with fail
              refine (SX _).mono ?_
              rintro e w10 ⟨rfl, hb10⟩
              clear r0 r1 r2 r3 r4 rf0 rf1 rf2 rf3 rf4 u0 u1 u2 u3_ u4_ SX HRES
              have HZ10 := Aside0.mk (blk_below HZ9.out hb10)
              have HB10 := Aside0.mk (HB9.out.below hb10)
              clear HZ9 HB9 hb10
              have HB11 := Aside0.mk (HB10.out.set (g := g6) HL6.out 4 (.int .i64 (immOf (formOf n) wd)))
              have zr := HB11.out.res
              have r0 := blk_cell zr 0
              have r1 := blk_cell zr 1
              have r2 := blk_cell zr 2
              have r3 := blk_cell zr 3
              have r4 := blk_cell zr 4
              have rf0 := blk_frozen zr 0
              have rf1 := blk_frozen zr 1
              have rf2 := blk_frozen zr 2
              have rf3 := blk_frozen zr 3
              have rf4 := blk_frozen zr 4
              have xf := blk_frozen HZ10.out 4
              have u0 := blk_cell HZ10.out 0
              have u1 := blk_cell HZ10.out 1
              have u2 := blk_cell HZ10.out 2
              have u3_ := blk_cell HZ10.out 3
              have u4_ := blk_cell HZ10.out 4
              simp only [List.getElem?_toArray, List.getElem?_cons_zero, List.getElem?_cons_succ] at r0 r1 r2 r3 r4 u0 u1 u2 u3_ u4_
              have HRES := Aside0.mk zr
              clear zr
              go_wp2_with fail
              have HP := Aside0.mk (put5_block HRES.out (.int .i64 (n : Int)) (.int .i64 ((fdOf n wd : Nat) : Int)) (.int .i64 ((fs1Of n wd : Nat) : Int)) (.int .i64 ((fs2Of n wd : Nat) : Int)) (.int .i64 (immOf (formOf n) wd)))
              have HQ := Aside0.mk (put5_below (.int .i64 (n : Int)) (.int .i64 ((fdOf n wd : Nat) : Int)) (.int .i64 ((fs1Of n wd : Nat) : Int)) (.int .i64 ((fs2Of n wd : Nat) : Int)) (.int .i64 (immOf (formOf n) wd)) HB11.out.low (Nat.le_add_right w.heap.size 1))
              refine bodyPost_ret (results_ct rfl _ _ (w.heap.size + 1) 42 #[.int .i64 (n : Int), .int .i64 ((fdOf n wd : Nat) : Int), .int .i64 ((fs1Of n wd : Nat) : Int), .int .i64 ((fs2Of n wd : Nat) : Int), .int .i64 (immOf (formOf n) wd)] (0, 0) _ rfl HP.out Tryz.underlying42 rfl (by kernel_rfl)) rfl ?_
              exact ⟨by rw [hdv.out]; rfl, HQ.out⟩
      · have ht : (((am : Nat) : Int) != ((bitsOf n : Nat) : Int)) = true := by rw [bne_iff_ne]; intro e; exact hh (HH.out.1 (by omega))
        have hN : ∀ m : Nat, 1 ≤ m → m < n + 1 → hit m wd = false := fun m h0 hm => by
          have := HNN.out
          by_cases e : m < i + 1
          · exact HN.out m h0 e
          · obtain rfl : m = n := by omega
            exact Bool.eq_false_iff.2 hh
        have hN := Aside0.mk hN
        clear HH hh
        go_wp2_with fail
        go_roundw
        case rel => exact ⟨i + 1, by go_num, by omega, ⟨fun m h0 hm => hN.out m h0 (by have := HNN.out; omega)⟩, HB2⟩
        case measure => simp [intOf]; omega
    · obtain rfl : i = 34 := by omega
      have DN := Aside0.mk (show decV wd = .tuple #[ins0, .int .i64 5] from by unfold decV; rw [dec_no (fun m h0 h1 => HN.out m h0 (by omega))])
      have HOWN := Aside0.mk HB.out.res
      have yc0 := blk_cell HOWN.out 0
      have yc1 := blk_cell HOWN.out 1
      have yc2 := blk_cell HOWN.out 2
      have yc3 := blk_cell HOWN.out 3
      have yc4 := blk_cell HOWN.out 4
      have yf0 := blk_frozen HOWN.out 0
      have yf1 := blk_frozen HOWN.out 1
      have yf2 := blk_frozen HOWN.out 2
      have yf3 := blk_frozen HOWN.out 3
      have yf4 := blk_frozen HOWN.out 4
      simp only [List.getElem?_toArray, List.getElem?_cons_zero, List.getElem?_cons_succ] at yc0 yc1 yc2 yc3 yc4
      go_wp2_with fail
      have HP := Aside0.mk (put5_block HOWN.out (.int .i64 0) (.int .i64 0) (.int .i64 0) (.int .i64 0) (.int .i64 0))
      have HQ := Aside0.mk (put5_below (.int .i64 0) (.int .i64 0) (.int .i64 0) (.int .i64 0) (.int .i64 0) HB.out.low (Nat.le_add_right w.heap.size 1))
      refine bodyPost_ret (results_ct rfl _ _ (w.heap.size + 1) 42 #[.int .i64 0, .int .i64 0, .int .i64 0, .int .i64 0, .int .i64 0] (0, 0) _ rfl HP.out Tryz.underlying42 rfl (by kernel_rfl)) rfl ?_
      exact ⟨by rw [DN.out]; rfl, HQ.out⟩
end Go.Proofs.YtcgkgaibomcheaaGreat.PDec
end

section
namespace Go.Proofs.YtcgkgaibomcheaaGreat.EFetch
open Go.RowKit Bits Dec Mb RDec PRvemuRuns YtcgkgaibomcheaaGreatW.PrintWords YtcgkgaibomcheaaGreatW.PrintLast YtcgkgaibomcheaaGreatW.PrintMore
theorem ld_lt {l : List Int} (hl : isBytes l) (a : Nat) : (ld l a 4).toNat < 4294967296 := by
  refine Nat.lt_pow_two_of_testBit (n := 32) _ fun j hj => ?_
  rw [BitVec.testBit_toNat]
  by_cases h : j < 64
  · rw [ld_at hl a 4 j h, decide_eq_false (by omega), Bool.false_and]
  · rw [BitVec.getLsbD_of_ge _ _ (by omega)]
set_option maxRecDepth 20000 in
set_option maxHeartbeats 1000000 in
theorem fetch_bad (g : Nat) (v : Nat → Value) (A : Option Addr) (L cc : Nat) (p : Int) (w : World) (h : MB 74 42 w g v) (h0 : v 0 = .slice A L cc) (hp : v 35 = .int .u64 p) (p0 : 0 ≤ p) (p1 : p < 18446744073709551616) (hL : L ≤ 1000000000000000)
    (hbad : ¬ (p % 4 = 0 ∧ 4194304 ≤ p ∧ p - 4194304 + 4 ≤ L)) :
    Calls Tryz.prog 40 #[.pointer (some ⟨g, 0, none⟩)] w fun e w' => e = .returned (.tuple #[ins0, .int .i64 4]) ∧ Below w.heap.size w w' := by
  have hb := below_alloc (Below.refl w.heap.size w) (.cells #[.int .i64 0, .int .i64 0, .int .i64 0, .int .i64 0, .int .i64 0] 42)
  have hM := h.below hb
  have c0 := (hM.cell 0 (by omega)).trans (congrArg some h0)
  have c35 := (hM.cell 35 (by omega)).trans (congrArg some hp)
  have HN := Aside0.mk (blk_new w (.cells #[.int .i64 0, .int .i64 0, .int .i64 0, .int .i64 0, .int .i64 0] 42))
  have HB := Aside0.mk hb
  have wL : IntKind.u64.wrap (L : Int) = (L : Int) := by simp only [IntKind.wrap, IntKind.bits, IntKind.signed, Bool.false_and, Bool.false_eq_true, if_false]; omega
  clear h hM h0 hp hb
  by_cases c1 : p % 4 = 0
  case neg =>
    have t1 : (p % 4 != 0) = true := by rw [bne_iff_ne]; exact c1
    clear hbad c1
    go_enter Tryz.func40, Tryz.ntmps40
    go_wp2
    refine bodyPost_ret (results_ct rfl _ _ w.heap.size 42 #[.int .i64 0, .int .i64 0, .int .i64 0, .int .i64 0, .int .i64 0] (0, 0) _ rfl HN.out Tryz.underlying42 rfl (by kernel_rfl)) rfl ?_
    exact ⟨rfl, HB.out⟩
  have t1 : (p % 4 != 0) = false := by rw [bne_eq_false_iff_eq]; exact c1
  by_cases c2 : 4194304 ≤ p
  case neg =>
    have t2 : decide (p < 4194304) = true := decide_eq_true (by omega)
    clear hbad c1 c2
    go_enter Tryz.func40, Tryz.ntmps40
    go_wp2
    refine bodyPost_ret (results_ct rfl _ _ w.heap.size 42 #[.int .i64 0, .int .i64 0, .int .i64 0, .int .i64 0, .int .i64 0] (0, 0) _ rfl HN.out Tryz.underlying42 rfl (by kernel_rfl)) rfl ?_
    exact ⟨rfl, HB.out⟩
  have t2 : decide (p < 4194304) = false := decide_eq_false (by omega)
  have ws : IntKind.u64.wrap (p - 4194304) = p - 4194304 := by simp only [IntKind.wrap, IntKind.bits, IntKind.signed, Bool.false_and, Bool.false_eq_true, if_false]; omega
  by_cases c3 : p - 4194304 ≤ L
  case neg =>
    have t3 : decide (p - 4194304 > (L : Int)) = true := decide_eq_true (by omega)
    have t3' : decide ((L : Int) < p - 4194304) = true := decide_eq_true (by omega)
    clear hbad c1 c2 c3
    go_enter Tryz.func40, Tryz.ntmps40
    go_wp2
    refine bodyPost_ret (results_ct rfl _ _ w.heap.size 42 #[.int .i64 0, .int .i64 0, .int .i64 0, .int .i64 0, .int .i64 0] (0, 0) _ rfl HN.out Tryz.underlying42 rfl (by kernel_rfl)) rfl ?_
    exact ⟨rfl, HB.out⟩
  have t3 : decide (p - 4194304 > (L : Int)) = false := decide_eq_false (by omega)
  have t3' : decide ((L : Int) < p - 4194304) = false := decide_eq_false (by omega)
  have wd : IntKind.u64.wrap ((L : Int) - (p - 4194304)) = (L : Int) - (p - 4194304) := by simp only [IntKind.wrap, IntKind.bits, IntKind.signed, Bool.false_and, Bool.false_eq_true, if_false]; omega
  have t4 : decide ((L : Int) - (p - 4194304) < 4) = true := decide_eq_true (by omega)
  clear hbad c1 c2 c3
  go_enter Tryz.func40, Tryz.ntmps40
  go_wp2
  refine bodyPost_ret (results_ct rfl _ _ w.heap.size 42 #[.int .i64 0, .int .i64 0, .int .i64 0, .int .i64 0, .int .i64 0] (0, 0) _ rfl HN.out Tryz.underlying42 rfl (by kernel_rfl)) rfl ?_
  exact ⟨rfl, HB.out⟩
set_option maxRecDepth 20000 in
set_option maxHeartbeats 2000000 in
theorem fetch_ok (g : Nat) (v : Nat → Value) (A : Option Addr) (l : List Int) (cc : Nat) (p : Int) (w : World) (h : MB 74 42 w g v) (h0 : v 0 = .slice A l.length cc) (hp : v 35 = .int .u64 p) (p0 : 0 ≤ p) (p1 : p < 18446744073709551616) (hL : l.length ≤ 1000000000000000)
    (hcc : l.length ≤ cc) (hC : Kd.C (Kd.int .u8) w A l.length l) (hby : isBytes l) (c1 : p % 4 = 0) (c2 : 4194304 ≤ p) (c3 : p - 4194304 + 4 ≤ l.length) :
    Calls Tryz.prog 40 #[.pointer (some ⟨g, 0, none⟩)] w fun e w' => e = .returned (decV (ld l (p - 4194304).toNat 4).toNat) ∧ Below w.heap.size w w' := by
  have hb := below_alloc (Below.refl w.heap.size w) (.cells #[.int .i64 0, .int .i64 0, .int .i64 0, .int .i64 0, .int .i64 0] 42)
  have hM := h.below hb
  have c0 := (hM.cell 0 (by omega)).trans (congrArg some h0)
  have c35 := (hM.cell 35 (by omega)).trans (congrArg some hp)
  have HN := Aside0.mk (blk_new w (.cells #[.int .i64 0, .int .i64 0, .int .i64 0, .int .i64 0, .int .i64 0] 42))
  have HB := Aside0.mk hb
  have wL : IntKind.u64.wrap (l.length : Int) = (l.length : Int) := by simp only [IntKind.wrap, IntKind.bits, IntKind.signed, Bool.false_and, Bool.false_eq_true, if_false]; omega
  have t1 : (p % 4 != 0) = false := by rw [bne_eq_false_iff_eq]; exact c1
  have t2 : decide (p < 4194304) = false := decide_eq_false (by omega)
  have ws : IntKind.u64.wrap (p - 4194304) = p - 4194304 := by simp only [IntKind.wrap, IntKind.bits, IntKind.signed, Bool.false_and, Bool.false_eq_true, if_false]; omega
  have t3 : decide (p - 4194304 > (l.length : Int)) = false := decide_eq_false (by omega)
  have t3' : decide ((l.length : Int) < p - 4194304) = false := decide_eq_false (by omega)
  have wd : IntKind.u64.wrap ((l.length : Int) - (p - 4194304)) = (l.length : Int) - (p - 4194304) := by simp only [IntKind.wrap, IntKind.bits, IntKind.signed, Bool.false_and, Bool.false_eq_true, if_false]; omega
  have t4 : decide ((l.length : Int) - (p - 4194304) < 4) = false := decide_eq_false (by omega)
  have HC := Aside0.mk (show ∀ W, Below w.heap.size w W → Calls Tryz.prog 83 #[.slice A l.length cc, .int .i64 (p - 4194304), .int .i64 4] W fun e w' => e = .returned (.tuple #[.int .u64 (U (ld l (p - 4194304).toNat 4)), .int .i64 0]) ∧ Drawn0 W w' from fun W hW =>
    word_Load.calls 100 A cc l (p - 4194304) 4 _ 0 W (Kd.C_below hC hW) hcc (F1.word_Load_yes 100 (by omega) l hL hby (p - 4194304) 4 ⟨by omega, by omega, by omega, by omega⟩))
  have hlt := ld_lt hby (p - 4194304).toNat
  have w64 : wrap64 (p - 4194304) = p - 4194304 := by unfold wrap64; omega
  obtain ⟨k, hk⟩ : ∃ k, (ld l (p - 4194304).toNat 4) = k := ⟨_, rfl⟩
  rw [hk] at HC hlt ⊢
  have hu : U k = ((k.toNat : Nat) : Int) := rfl
  have HU := Aside0.mk hu
  have hm : U k % 4294967296 = U k := by rw [hu]; omega
  have DC := Aside0.mk (PDec.decode k.toNat hlt)
  clear h h0 hp hM hC hby hk hu
  cases hd : dec k.toNat with
  | none =>
    have hv : decV k.toNat = .tuple #[.agg #[.int .i64 0, .int .i64 0, .int .i64 0, .int .i64 0, .int .i64 0], .int .i64 5] := by unfold decV; rw [hd]; rfl
    rw [hv] at DC ⊢
    clear hd hv
    go_enter Tryz.func40, Tryz.ntmps40
    go_wp2_with fail
    refine (HC.out _ HB.out).mono ?_
    rintro e w2 ⟨rfl, hdr⟩
    have hb2 := hdr.below
    have HN2 := Aside0.mk (blk_below HN.out hb2)
    have HB2 := Aside0.mk (below_step HB.out hb2)
    clear hdr hb2 HC HN HB c0 c35
    go_wp2_with fail
    rw [HU.out]
    refine (DC.out _).mono ?_
    rintro e w3 ⟨rfl, hb3⟩
    have HN3 := Aside0.mk (blk_below HN2.out hb3)
    have HB3 := Aside0.mk (below_step HB2.out hb3)
    have y0 := blk_cell HN3.out 0
    have y1 := blk_cell HN3.out 1
    have y2 := blk_cell HN3.out 2
    have y3 := blk_cell HN3.out 3
    have y4 := blk_cell HN3.out 4
    have f0 := blk_frozen HN3.out 0
    have f1 := blk_frozen HN3.out 1
    have f2 := blk_frozen HN3.out 2
    have f3 := blk_frozen HN3.out 3
    have f4 := blk_frozen HN3.out 4
    simp only [List.getElem?_toArray, List.getElem?_cons_zero, List.getElem?_cons_succ] at y0 y1 y2 y3 y4
    clear hb3 HN2 HB2
    go_wp2_with fail
    have HP := Aside0.mk (put5_block HN3.out (.int .i64 0) (.int .i64 0) (.int .i64 0) (.int .i64 0) (.int .i64 0))
    have HQ := Aside0.mk (put5_below (.int .i64 0) (.int .i64 0) (.int .i64 0) (.int .i64 0) (.int .i64 0) HB3.out (Nat.le_refl _))
    refine bodyPost_ret (results_ct rfl _ _ w.heap.size 42 #[.int .i64 0, .int .i64 0, .int .i64 0, .int .i64 0, .int .i64 0] (0, 0) _ rfl HP.out Tryz.underlying42 rfl (by kernel_rfl)) rfl ?_
    exact ⟨rfl, HQ.out⟩
  | some n =>
    have hv : decV k.toNat = .tuple #[.agg #[.int .i64 (n : Int), .int .i64 (fdOf n k.toNat : Nat), .int .i64 (fs1Of n k.toNat : Nat), .int .i64 (fs2Of n k.toNat : Nat), .int .i64 (immOf (formOf n) k.toNat)], .int .i64 0] := by unfold decV; rw [hd]; rfl
    rw [hv] at DC ⊢
    obtain ⟨a1, ha1⟩ : ∃ a1 : Int, ((fdOf n k.toNat : Nat) : Int) = a1 := ⟨_, rfl⟩
    obtain ⟨a2, ha2⟩ : ∃ a1 : Int, ((fs1Of n k.toNat : Nat) : Int) = a1 := ⟨_, rfl⟩
    obtain ⟨a3, ha3⟩ : ∃ a1 : Int, ((fs2Of n k.toNat : Nat) : Int) = a1 := ⟨_, rfl⟩
    obtain ⟨a4, ha4⟩ : ∃ a1 : Int, immOf (formOf n) k.toNat = a1 := ⟨_, rfl⟩
    rw [ha1, ha2, ha3, ha4] at DC ⊢
    clear hd hv ha1 ha2 ha3 ha4
    go_enter Tryz.func40, Tryz.ntmps40
    go_wp2_with fail
    refine (HC.out _ HB.out).mono ?_
    rintro e w2 ⟨rfl, hdr⟩
    have hb2 := hdr.below
    have HN2 := Aside0.mk (blk_below HN.out hb2)
    have HB2 := Aside0.mk (below_step HB.out hb2)
    clear hdr hb2 HC HN HB c0 c35
    go_wp2_with fail
    rw [HU.out]
    refine (DC.out _).mono ?_
    rintro e w3 ⟨rfl, hb3⟩
    have HN3 := Aside0.mk (blk_below HN2.out hb3)
    have HB3 := Aside0.mk (below_step HB2.out hb3)
    have y0 := blk_cell HN3.out 0
    have y1 := blk_cell HN3.out 1
    have y2 := blk_cell HN3.out 2
    have y3 := blk_cell HN3.out 3
    have y4 := blk_cell HN3.out 4
    have f0 := blk_frozen HN3.out 0
    have f1 := blk_frozen HN3.out 1
    have f2 := blk_frozen HN3.out 2
    have f3 := blk_frozen HN3.out 3
    have f4 := blk_frozen HN3.out 4
    simp only [List.getElem?_toArray, List.getElem?_cons_zero, List.getElem?_cons_succ] at y0 y1 y2 y3 y4
    clear hb3 HN2 HB2
    go_wp2_with fail
    have HP := Aside0.mk (put5_block HN3.out (.int .i64 (n : Int)) (.int .i64 a1) (.int .i64 a2) (.int .i64 a3) (.int .i64 a4))
    have HQ := Aside0.mk (put5_below (.int .i64 (n : Int)) (.int .i64 a1) (.int .i64 a2) (.int .i64 a3) (.int .i64 a4) HB3.out (Nat.le_refl _))
    refine bodyPost_ret (results_ct rfl _ _ w.heap.size 42 #[.int .i64 (n : Int), .int .i64 a1, .int .i64 a2, .int .i64 a3, .int .i64 a4] (0, 0) _ rfl HP.out Tryz.underlying42 rfl (by kernel_rfl)) rfl ?_
    exact ⟨rfl, HQ.out⟩
end Go.Proofs.YtcgkgaibomcheaaGreat.EFetch
end
