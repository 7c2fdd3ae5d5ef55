/- The walk of the document's Bytes: the 64 bytes of the data in new memory. Conditions: the words are of their kinds. -/
import Derived.Test.YtplplillpjnnnaaCommon
import Derived.Test.YtplplillpjnnnaaFactsP
namespace Go.Proofs.Ytplplillpjnnnaa.RefBytes
open Go.RowKit Go.Proofs.Ytplplillpjnnnaa.PSecdataBytes Go.Proofs.Ytplplillpjnnnaa.Bits Go.Proofs.Ytplplillpjnnnaa.Dat Go.Proofs.Ytplplillpjnnnaa.Common Go.Proofs.YtplplillpjnnnaaW.PrintWords Go.Proofs.YtplplillpjnnnaaW.PrintLast Go.Proofs.YtplplillpjnnnaaW.PrintMore
set_option linter.unusedVariables false
set_option linter.unusedSimpArgs false

/-- What the document's Bytes has laid out, round by round. -/
def rp (d : Dt) : Nat → List Int
  | 0 => (([] ++ le 4 d.nr) ++ le 4 d.arch) ++ le 8 d.ip
  | i + 1 => rp d i ++ le 8 (d.arg i)
theorem rp_length (d : Dt) : ∀ i, (rp d i).length = 16 + 8 * i
  | 0 => by unfold rp; rw [List.length_append, List.length_append, List.length_append, FactsP.le_length, FactsP.le_length, FactsP.le_length]; rfl
  | i + 1 => by unfold rp; rw [List.length_append, FactsP.le_length, rp_length d i]; omega
theorem rp_dB (d : Dt) : rp d 6 = dB d := by
  simp only [rp, dB, List.nil_append, List.append_assoc, Dt.arg]
theorem put_row (wb W : World) (u : Value) (x : List Int) (hl : x.length ≤ 1000) (v : BitVec 64) (n : Nat) (ni : Int) (hni : ni = n) (hn : n ≤ 8)
    (hB : Below wb.heap.size wb W) (ho : Kd.R (Kd.int .u8) 5 W wb.heap.size (fun _ => True) u x) :
    Calls Try.prog 26 #[u, .int .u64 (U v), .int .i64 ni] W fun e w' => ∃ v0, e = .returned v0 ∧ Kd.R (Kd.int .u8) 5 w' wb.heap.size (fun _ => True) v0 (x ++ le n v) ∧ Below wb.heap.size wb w' := by
  subst hni
  exact (ravelinref02_put.calls 100 _ u x (U v) n _ wb W hB ho (FactsP.put_eq 100 (by omega) x hl v n hn)).mono fun e w' ⟨v0, he, h1, h2, _⟩ => ⟨v0, he, Kd.R_mono h1 (fun _ _ => trivial), h2⟩
set_option maxRecDepth 100000 in
set_option maxHeartbeats 1600000 in
theorem calls (d : Dt) (w : World) :
    Calls Try.prog 16 #[.agg #[.int .u32 (U d.nr), .int .u32 (U d.arch), .int .u64 (U d.ip), .int .u64 (U d.a0), .int .u64 (U d.a1), .int .u64 (U d.a2), .int .u64 (U d.a3), .int .u64 (U d.a4), .int .u64 (U d.a5)]] w fun e w' => ∃ A c, e = .returned (.slice A 64 c) ∧ Kd.R (Kd.int .u8) 5 w' w.heap.size (fun _ => True) (.slice A 64 c) (dB d) ∧ Below w.heap.size w w' := by
  go_enter Try.func16, Try.ntmps16
  obtain ⟨wb, hwb⟩ : ∃ wb, wb = w.alloc (.cells #[.int .u32 (U d.nr), .int .u32 (U d.arch), .int .u64 (U d.ip), .int .u64 (U d.a0), .int .u64 (U d.a1), .int .u64 (U d.a2), .int .u64 (U d.a3), .int .u64 (U d.a4), .int .u64 (U d.a5)] 26) := ⟨_, rfl⟩
  have HX := Aside0.mk (show ∀ W, Below wb.heap.size wb W → W.heap[w.heap.size]? = some (.cells #[.int .u32 (U d.nr), .int .u32 (U d.arch), .int .u64 (U d.ip), .int .u64 (U d.a0), .int .u64 (U d.a1), .int .u64 (U d.a2), .int .u64 (U d.a3), .int .u64 (U d.a4), .int .u64 (U d.a5)] 26 (0, 0)) ∧ Below w.heap.size w W from fun W h => by subst hwb; exact box_later h)
  have HW := Aside0.mk (show w.heap.size ≤ wb.heap.size from by rw [hwb, World.size_alloc]; omega)
  have HWB := Aside0.mk hwb
  have e0 := wrapU_U d.nr
  have e1 := wrapU_U d.arch
  have d0 := blk_cell (HX.out wb (Below.refl _ _)).1 0
  simp only [List.getElem?_toArray, List.getElem?_cons_zero, List.getElem?_cons_succ] at d0
  rw [hwb] at d0
  clear hwb
  go_wp2_with fail
  rw [← HWB.out]
  refine (put_row wb wb _ [] (by simp) d.nr 4 4 rfl (by omega) (Below.refl _ _) (Kd.R_nil _ _ _ _ _)).mono ?_
  rintro e w6 ⟨v6, rfl, ho6, hd6⟩
  have d1 := blk_cell (HX.out _ hd6).1 1
  simp only [List.getElem?_toArray, List.getElem?_cons_zero, List.getElem?_cons_succ] at d1
  have HO6 := Aside0.mk ho6
  have HD6 := Aside0.mk hd6
  clear d0 ho6 hd6 HWB
  go_wp2_with fail
  refine (put_row wb w6 v6 _ (by simp [FactsP.le_length]) d.arch 4 4 rfl (by omega) HD6.out HO6.out).mono ?_
  rintro e w7 ⟨v7, rfl, ho7, hd7⟩
  have d2 := blk_cell (HX.out _ hd7).1 2
  simp only [List.getElem?_toArray, List.getElem?_cons_zero, List.getElem?_cons_succ] at d2
  have HO7 := Aside0.mk ho7
  have HD7 := Aside0.mk hd7
  clear d1 ho7 hd7 HO6 HD6
  go_wp2_with fail
  refine (put_row wb w7 v7 _ (by simp [FactsP.le_length]) d.ip 8 8 rfl (by omega) HD7.out HO7.out).mono ?_
  rintro e w8 ⟨v8, rfl, ho8, hd8⟩
  have HO8 := Aside0.mk (show Kd.R (Kd.int .u8) 5 w8 wb.heap.size (fun _ => True) v8 (rp d 0) from ho8)
  have HD8 := Aside0.mk hd8
  clear d2 ho8 hd8 HO7 HD7 e0 e1
  go_wp2_with fail
  go_loopw [3, 4] (fun v3 v4 w' => ∃ i : Nat, i ≤ 6 ∧ v4 = .int .i64 i ∧ Aside0 (Kd.R (Kd.int .u8) 5 w' wb.heap.size (fun _ => True) v3 (rp d i)) ∧ Aside0 (Below wb.heap.size wb w')) (fun v3 v4 _ => 6 - (intOf v4).toNat)
  case atStart => exact ⟨0, by omega, rfl, HO8, HD8⟩
  case round =>
    clear HO8 HD8
    obtain ⟨i, hi, rfl, HO, HD⟩ := hrel
    by_cases hlt : i < 6
    · have d3 := (blk_cell (HX.out _ HD.out).1 (3 + i)).trans (Dt.val3 d i hlt)
      go_wp2_with fail
      refine (put_row wb wr _ (rp d i) (by rw [rp_length]; omega) (d.arg i) 8 8 rfl (by omega) HD.out HO.out).mono ?_
      rintro e w9 ⟨v9, rfl, ho9, hd9⟩
      have HO9 := Aside0.mk (show Kd.R (Kd.int .u8) 5 w9 wb.heap.size (fun _ => True) v9 (rp d (i + 1)) from ho9)
      have HD9 := Aside0.mk hd9
      clear d3 ho9 hd9 HO HD
      go_wp2
      exact ⟨⟨i + 1, by omega, by go_num, HO9, HD9⟩, by simp [intOf]; omega⟩
    · have e6 : rp d i = dB d := by rw [show i = 6 by omega, rp_dB]
      rw [e6] at HO
      obtain ⟨A, c, e9, hc, hC⟩ := Kd.R_reads HO.out
      subst e9
      have HR := Aside0.mk (Kd.R_lower HO.out HW.out)
      have HB := Aside0.mk (HX.out _ HD.out).2
      have hl6 := dB_length d
      rw [hl6] at HR
      have HL := Aside0.mk hl6
      clear hc hC HO HD e6 hl6
      go_wp2
      go_ret
      refine ⟨A, c, ?_, HR.out, HB.out⟩
      rw [← HL.out]
      rfl
end Go.Proofs.Ytplplillpjnnnaa.RefBytes
