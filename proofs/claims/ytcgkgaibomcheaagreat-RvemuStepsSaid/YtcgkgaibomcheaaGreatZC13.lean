/- Joined out of this claim's texts: RDec, EM, Mem. Conditions: those of each theorem. -/
import Derived.Test.YtcgkgaibomcheaaGreatZC01
import Derived.Test.YtcgkgaibomcheaaGreatZC12
import Derived.Test.YtcgkgaibomcheaaGreatZC03
import Derived.Test.YtcgkgaibomcheaaGreatZC06
import Derived.StillTailTactics
import Derived.Test.YtcgkgaibomcheaaGreatZC09
import Derived.Test.YtcgkgaibomcheaaGreatZC10
import Derived.Test.YtcgkgaibomcheaaGreatZC02
set_option linter.unusedVariables false
set_option linter.unusedSimpArgs false
section
namespace Go.Proofs.YtcgkgaibomcheaaGreat.RDec
open Go.RowKit Bits Dec Enc Mb PRvemuRuns YtcgkgaibomcheaaGreatW.PrintWords YtcgkgaibomcheaaGreatW.PrintLast YtcgkgaibomcheaaGreatW.PrintMore
def insOf (n wd : Nat) : Value := .agg #[.int .i64 (n : Int), .int .i64 (fdOf n wd : Nat), .int .i64 (fs1Of n wd : Nat), .int .i64 (fs2Of n wd : Nat), .int .i64 (immOf (formOf n) wd)]
def ins0 : Value := .agg #[.int .i64 0, .int .i64 0, .int .i64 0, .int .i64 0, .int .i64 0]
def decV (wd : Nat) : Value := match dec wd with
  | some n => .tuple #[insOf n wd, .int .i64 0]
  | none => .tuple #[ins0, .int .i64 5]
theorem decV_yes {n wd : Nat} (h0 : 1 ≤ n) (h1 : n ≤ 34) (h : hit n wd = true) : decV wd = .tuple #[insOf n wd, .int .i64 0] := by unfold decV; rw [dec_yes h0 h1 h]
theorem decV_no {wd : Nat} (h : ∀ i : Nat, i < 34 → hit (orderD.getD i 0) wd = false) : decV wd = .tuple #[ins0, .int .i64 5] := by unfold decV; rw [dec_no_order h]
def RowsAt (W : World) (b : Nat) : Prop := ∃ cs : Array Value, W.heap[b]? = some (.cells cs 59 (0, 0)) ∧ ∀ i, i < 34 → cs[i * 6]? = some (.int .i64 (orderD.getD i 0 : Nat)) ∧ cs[i * 6 + 1]? = some (.int .i64 (formOf (orderD.getD i 0) : Nat)) ∧ cs[i * 6 + 2]? = some (.int .u32 (codeOf (orderD.getD i 0) : Nat))
theorem RowsAt.of {W W' : World} {b : Nat} (h : RowsAt W b) (hb : W'.heap[b]? = W.heap[b]?) : RowsAt W' b := by
  obtain ⟨cs, h1, h2⟩ := h
  exact ⟨cs, hb.trans h1, h2⟩
theorem RowsAt.lt {W : World} {b : Nat} (h : RowsAt W b) : b < W.heap.size := by
  obtain ⟨cs, h1, h2⟩ := h
  exact blk_lt h1
theorem RowsAt.below {W W' : World} {b : Nat} (h : RowsAt W b) (hb : Below W.heap.size W W') : RowsAt W' b := h.of (hb.block b h.lt)
theorem rows_at : ∀ i : Fin 34, (rowsL.getD i.1 z59).f0 = (orderD.getD i.1 0 : Nat) ∧ (rowsL.getD i.1 z59).f1 = (formOf (orderD.getD i.1 0) : Nat) ∧ (rowsL.getD i.1 z59).f2 = (codeOf (orderD.getD i.1 0) : Nat) := by decide +kernel
theorem RowsAt.mk_ {W : World} {base : Nat} {ok : Nat → Prop} {v : Value} (h : Kd.R k59 59 W base ok v rowsL) : ∃ b cap, v = .slice (some ⟨b, 0, none⟩) 34 cap ∧ RowsAt W b ∧ base ≤ b := by
  obtain ⟨g, cap, rfl, hg, _, cs, hcs⟩ := Kd.R_form h (by decide)
  obtain ⟨_, _, hC⟩ := Kd.R_reads' h
  obtain ⟨_, _, hC⟩ := hC
  obtain ⟨ad, had, hC⟩ := hC (by decide)
  obtain rfl : (⟨g, 0, none⟩ : Addr) = ad := Option.some.inj had
  refine ⟨g, cap, rfl, ⟨cs, hcs, fun i hi => ?_⟩, hg⟩
  obtain ⟨e0, e1, e2⟩ := rows_at ⟨i, hi⟩
  have hi' : i < rowsL.length := hi
  obtain ⟨ks, hk, hlen, hkc⟩ := hC i (rowsL[i]'hi') (List.getElem?_eq_getElem hi')
  have hks := k59_open hlen
  subst hks
  have er : rowsL.getD i z59 = rowsL[i]'hi' := by rw [List.getD_eq_getElem?_getD, List.getElem?_eq_getElem hi']; rfl
  simp only at e0 e1 e2
  rw [er] at e0 e1 e2
  have c := fun (j : Nat) (u : Value) hj => hkc j u hj
  have sz : k59.sz = 6 := rfl
  have q := fun (j : Nat) (u : Value) (hj : _ = some u) => (blk_cell hcs (i * 6 + j)).symm.trans ((show W.cell? ⟨g, i * 6 + j, none⟩ = W.cell? ((⟨g, 0, none⟩ : Addr).add (i * k59.sz + j)) by rw [sz]; simp [Addr.add]; (try omega); split <;> simp_all).trans (c j u hj))
  refine ⟨?_, ?_, ?_⟩
  · rw [← e0]; exact q 0 _ rfl
  · rw [← e1]; exact q 1 _ rfl
  · rw [← e2]; exact q 2 _ rfl
theorem quiet0 {P : Program} {f : FuncId} {args : Array Value} {w : World} {n : Nat} {v : Value} (h : ∀ W, Calls P f args W fun e w' => e = .returned v ∧ Drawn0 W w') : Calls P f args (w.drewN n) fun e w'' => e = .returned v ∧ ∃ m, w'' = w.drewN m :=
  Calls.quiet_of ((h _).mono fun e w' ⟨he, hd⟩ => ⟨he, hd.out⟩)
theorem kA {W : World} {p : Addr} {v : Value} (o : Obj) (h : W.cell? p = some v) : (W.alloc o).cell? p = some v := ((below_alloc (Below.refl _ _) o).cell (World.block_lt_of_cell? _ _ h)).trans h
theorem kB {W W' : World} {p : Addr} {v : Value} (hd : Below W.heap.size W W') (h : W.cell? p = some v) : W'.cell? p = some v := (hd.cell (World.block_lt_of_cell? _ _ h)).trans h
theorem kS {W : World} {p q : Addr} {v u : Value} (hn : p.block ≠ q.block) (h : W.cell? p = some v) : (W.setCell q u).cell? p = some v := (World.cell?_setCell_far W q p u (fun e => hn e.symm)).trans h
theorem kS5 {W : World} {p : Addr} {v u0 u1 u2 u3 u4 : Value} {g : Nat} (hn : p.block ≠ g) (h : W.cell? p = some v) : (((((W.setCell ⟨g, 0, none⟩ u0).setCell ⟨g, 1, none⟩ u1).setCell ⟨g, 2, none⟩ u2).setCell ⟨g, 3, none⟩ u3).setCell ⟨g, 4, none⟩ u4).cell? p = some v :=
  kS (q := ⟨g, 4, none⟩) hn (kS (q := ⟨g, 3, none⟩) hn (kS (q := ⟨g, 2, none⟩) hn (kS (q := ⟨g, 1, none⟩) hn (kS (q := ⟨g, 0, none⟩) hn h))))
def put5 (W : World) (g : Nat) (u0 u1 u2 u3 u4 : Value) : World := ((((W.setCell ⟨g, 0, none⟩ u0).setCell ⟨g, 1, none⟩ u1).setCell ⟨g, 2, none⟩ u2).setCell ⟨g, 3, none⟩ u3).setCell ⟨g, 4, none⟩ u4
theorem put5_block {W : World} {g T : Nat} {v0 v1 v2 v3 v4 : Value} (h : W.heap[g]? = some (.cells #[v0, v1, v2, v3, v4] T (0, 0))) (u0 u1 u2 u3 u4 : Value) : (put5 W g u0 u1 u2 u3 u4).heap[g]? = some (.cells #[u0, u1, u2, u3, u4] T (0, 0)) :=
  blk_put (cs' := #[u0, u1, u2, u3, u4]) (blk_put (cs' := #[u0, u1, u2, u3, v4]) (blk_put (cs' := #[u0, u1, u2, v3, v4]) (blk_put (cs' := #[u0, u1, v2, v3, v4]) (blk_put (cs' := #[u0, v1, v2, v3, v4]) h 0 u0 rfl) 1 u1 rfl) 2 u2 rfl) 3 u3 rfl) 4 u4 rfl
theorem put5_far {W : World} {g k : Nat} (u0 u1 u2 u3 u4 : Value) (h : k ≠ g) : (put5 W g u0 u1 u2 u3 u4).heap[k]? = W.heap[k]? := by
  unfold put5
  rw [Below.heap_setCell _ _ _ _ h, Below.heap_setCell _ _ _ _ h, Below.heap_setCell _ _ _ _ h, Below.heap_setCell _ _ _ _ h, Below.heap_setCell _ _ _ _ h]
theorem put5_below {w W : World} {g B : Nat} (u0 u1 u2 u3 u4 : Value) (h : Below B w W) (hg : B ≤ g) : Below B w (put5 W g u0 u1 u2 u3 u4) := by
  unfold put5
  exact ((((h.setCell hg _).setCell hg _).setCell hg _).setCell hg _).setCell hg _
theorem combos (m wd : Nat) (f1 : 1 ≤ formOf m) (f8 : formOf m ≤ 8) : (nd (formOf m) = true ∧ ns (formOf m) = false ∧ nt (formOf m) = false ∧ fdOf m wd = wd / 128 % 32 ∧ fs1Of m wd = 0 ∧ fs2Of m wd = 0) ∨ (nd (formOf m) = true ∧ ns (formOf m) = true ∧ nt (formOf m) = false ∧ fdOf m wd = wd / 128 % 32 ∧ fs1Of m wd = wd / 32768 % 32 ∧ fs2Of m wd = 0) ∨ (nd (formOf m) = false ∧ ns (formOf m) = true ∧ nt (formOf m) = true ∧ fdOf m wd = 0 ∧ fs1Of m wd = wd / 32768 % 32 ∧ fs2Of m wd = wd / 1048576 % 32) ∨ (nd (formOf m) = true ∧ ns (formOf m) = true ∧ nt (formOf m) = true ∧ fdOf m wd = wd / 128 % 32 ∧ fs1Of m wd = wd / 32768 % 32 ∧ fs2Of m wd = wd / 1048576 % 32) := by
  unfold fdOf fs1Of fs2Of nd ns nt
  have hf : formOf m = 1 ∨ formOf m = 2 ∨ formOf m = 3 ∨ formOf m = 4 ∨ formOf m = 5 ∨ formOf m = 6 ∨ formOf m = 7 ∨ formOf m = 8 := by omega
  rcases hf with hf | hf | hf | hf | hf | hf | hf | hf <;> rw [hf] <;> simp
def Own (w W : World) : Prop := W.heap[w.heap.size]? = some (.cells #[.int .i64 0, .int .i64 0, .int .i64 0, .int .i64 0, .int .i64 0] 42 (0, 0))
set_option maxRecDepth 20000 in
set_option maxHeartbeats 2000000 in
theorem decode (wd : Nat) (hw : wd < 4294967296) (w : World) : Calls Tryz.prog 43 #[.int .u32 (wd : Int)] w fun e w' => e = .returned (decV wd) ∧ Below w.heap.size w w' := by
  have PT := Aside0.mk (fun (lo n l2 n2 : Nat) (hl : lo ≤ 63) (hn : n ≤ 32) (e1 : 2 ^ lo = l2) (e2 : 2 ^ n = n2) W => ravelinref15_part.calls 100 (wd : Int) (lo : Nat) (n : Nat) _ W (Tk.p 100 (by omega) wd hw lo n hl hn l2 n2 e1 e2))
  have hu42 := Tryz.underlying42
  go_enter Tryz.func43, Tryz.ntmps43
  go_wp2_with fail
  refine (ravelinref15_Rows.calls rowsL _ rfl).mono ?_
  rintro e w1 ⟨v, rfl, hR, hb⟩
  obtain ⟨b, cap, rfl, hR, hbase⟩ := RowsAt.mk_ hR
  have HB := Aside0.mk (show Below w.heap.size w w1 from (below_alloc (Below.refl w.heap.size w) _).trans (hb.mono (by simp)))
  have HO := Aside0.mk (show Own w w1 from (hb.block w.heap.size (by simp)).trans (blk_new w _))
  have HR := Aside0.mk hR
  have HL := Aside0.mk (show w.heap.size < b from by simp only [World.size_alloc] at hbase; omega)
  clear hR hb hbase
  go_wp2_with fail
  go_loopw [5] (fun v5 W => ∃ i : Nat, v5 = .int .i64 (i : Int) ∧ i ≤ 34 ∧ Aside0 (∀ j : Nat, j < i → hit (orderD.getD j 0) wd = false) ∧ Aside0 (RowsAt W b) ∧ Aside0 (Own w W) ∧ Aside0 (Below w.heap.size w W)) (fun v5 _ => 34 - (intOf v5).toNat)
  case atStart => exact ⟨0, rfl, by omega, ⟨fun j hj => absurd hj (by omega)⟩, HR, HO, HB⟩
  case round =>
    clear HB HO HR
    obtain ⟨i, rfl, hi, HN, HR, HO, HB⟩ := hrel
    by_cases hlt : i < 34
    · obtain ⟨h0, h1⟩ := in_order (orderD.getD i 0) (by rw [List.getD_eq_getElem?_getD, List.getElem?_eq_getElem (show i < orderD.length from hlt)]; exact List.getElem_mem _)
      have HX := Aside0.mk (show ∀ m, orderD.getD i 0 = m → hit m wd = false → ∀ j : Nat, j < i + 1 → hit (orderD.getD j 0) wd = false from fun m hm hh j hj => by
        by_cases e : j < i
        · exact HN.out j e
        · obtain rfl : j = i := by omega
          rw [hm]; exact hh)
      obtain ⟨cs, hcs, hrow⟩ := HR.out
      obtain ⟨r0, r1, r2⟩ := hrow i hlt
      obtain ⟨m, hm⟩ : ∃ m, orderD.getD i 0 = m := ⟨_, rfl⟩
      rw [hm] at r0 r1 r2 h0 h1
      have HX := Aside0.mk (HX.out m hm)
      clear HN hrow hm
      have x0 := (blk_cell hcs (i * 6)).trans r0
      have x1 := (blk_cell hcs (i * 6 + 1)).trans r1
      have x2 := (blk_cell hcs (i * 6 + 2)).trans r2
      clear r0 r1 r2 hcs cs
      have P0 : ∀ W, Calls Tryz.prog 86 #[.int .u32 (wd : Int), .int .i64 0, .int .i64 7] W fun e w' => e = .returned (.int .i64 ((wd % 128 : Nat) : Int)) ∧ Drawn0 W w' := fun W => by
        have h := PT.out 0 7 1 128 (by omega) (by omega) rfl rfl W
        rw [Nat.div_one] at h
        exact h
      go_wp2_with fail
      go_quiet (exact quiet0 P0)
      have HR2 := Aside0.mk (show RowsAt (wr.drewN nq) b from HR.out.of rfl)
      have HO2 := Aside0.mk (show Own w (wr.drewN nq) from HO.out)
      have HB2 := Aside0.mk (pw_below_drewN HB.out nq)
      have x0 : (wr.drewN nq).cell? ⟨b, i * 6, none⟩ = _ := x0
      have x1 : (wr.drewN nq).cell? ⟨b, i * 6 + 1, none⟩ = _ := x1
      generalize wr.drewN nq = W2 at *
      clear HR HO HB P0 x2
      by_cases hc : wd % 128 = codeOf m
      · have hb : (((wd : Int) % 128) != ((codeOf m : Nat) : Int)) = false := by rw [bne_eq_false_iff_eq]; omega
        have hci := Aside0.mk hc
        clear hc
        obtain ⟨f1, f8, fc, f3, f7⟩ := form_in h0 h1
        have TK : ∀ W, Calls Tryz.prog 87 #[.int .i64 ((formOf m : Nat) : Int), .int .u32 (wd : Int)] W fun e w' => e = .returned (.int .i64 (immOf (formOf m) wd)) ∧ Drawn0 W w' := fun W => ravelinref15_take.calls 100 _ _ _ W (Tk.take_eq 100 (by omega) _ f1 f8 wd hw)
        go_wp2_with fail
        have HLB := Aside0.mk (show b ≠ W2.heap.size from by have := HR2.out.lt; omega)
        have L0 := below_drew1 (Below.refl W2.heap.size W2)
        refine start_ (n := 15) (S := fun w' => w'.cell? ⟨b, i * 6, none⟩ = some (.int .i64 (m : Int)) ∧ w'.cell? ⟨b, i * 6 + 1, none⟩ = some (.int .i64 ((formOf m : Nat) : Int))) (ds := []) #[vF,vF,vF,vF,vF,vF,vF,vF,vF,vF,vF,vF,vF,vF,vF] (by kernel_rfl) rfl rfl ⟨x0, x1⟩ (fun hHeld => ?_)
        refine pure_ (i := 0) (N := some 28) (v := ?_) (a' := ?_) #[vT,vF,vF,vF,vF,vF,vF,vF,vF,vF,vF,vF,vF,vF,vF] rfl rfl (by kernel_rfl) (fun _ _ _ h => h) (Or.inl ⟨by rfl, ?_⟩) ?_ ?_
        rotate_left
        · intro w'; go_simp; with_reducible rfl
        rotate_left
        · simp only [Act.put, List.setIfInBounds_toArray, List.set, i64_w, i32_w]
          rfl
        refine pure_ (i := 1) (N := some 29) (v := ?_) (a' := ?_) #[vT,vT,vF,vF,vF,vF,vF,vF,vF,vF,vF,vF,vF,vF,vF] rfl rfl (by kernel_rfl) (fun _ _ _ h => h) (Or.inl ⟨by rfl, ?_⟩) ?_ ?_
        rotate_left
        · intro w'; go_simp; with_reducible rfl
        rotate_left
        · simp only [Act.put, List.setIfInBounds_toArray, List.set, i64_w, i32_w]
          rfl
        refine pure_ (i := 2) (N := some 30) (v := ?_) (a' := ?_) #[vT,vT,vT,vF,vF,vF,vF,vF,vF,vF,vF,vF,vF,vF,vF] rfl rfl (by kernel_rfl) (fun _ _ _ h => h) (Or.inl ⟨by rfl, ?_⟩) ?_ ?_
        rotate_left
        · intro w'; go_simp; with_reducible rfl
        rotate_left
        · simp only [Act.put, List.setIfInBounds_toArray, List.set, i64_w, i32_w]
          rfl
        refine pure_ (i := 3) (N := some 31) (v := ?_) (a' := ?_) #[vT,vT,vT,vT,vF,vF,vF,vF,vF,vF,vF,vF,vF,vF,vF] rfl rfl (by kernel_rfl) (fun _ _ _ h => h) (Or.inl ⟨by rfl, ?_⟩) ?_ ?_
        rotate_left
        · intro w'; go_simp; with_reducible rfl
        rotate_left
        · simp only [Act.put, List.setIfInBounds_toArray, List.set, i64_w, i32_w]
          rfl
        refine pure_ (i := 5) (N := some 33) (v := ?_) (a' := ?_) #[vT,vT,vT,vT,vF,vT,vF,vF,vF,vF,vF,vF,vF,vF,vF] rfl rfl (by kernel_rfl) (fun _ _ _ h => h) (Or.inl ⟨by rfl, ?_⟩) ?_ ?_
        rotate_left
        · intro w'; go_simp; with_reducible rfl
        rotate_left
        · simp only [Act.put, List.setIfInBounds_toArray, List.set, i64_w, i32_w]
          rfl
        refine pure_ (i := 6) (N := some 34) (v := ?_) (a' := ?_) #[vT,vT,vT,vT,vF,vT,vT,vF,vF,vF,vF,vF,vF,vF,vF] rfl rfl (by kernel_rfl) (fun _ _ _ h => h) (Or.inl ⟨by rfl, ?_⟩) ?_ ?_
        rotate_left
        · intro w'; go_simp; with_reducible rfl
        rotate_left
        · simp only [Act.put, List.setIfInBounds_toArray, List.set, i64_w, i32_w]
          rfl
        refine pure_ (i := 7) (N := some 35) (v := ?_) (a' := ?_) #[vT,vT,vT,vT,vF,vT,vT,vT,vF,vF,vF,vF,vF,vF,vF] rfl rfl (by kernel_rfl) (fun _ _ _ h => h) (Or.inl ⟨by rfl, ?_⟩) ?_ ?_
        rotate_left
        · intro w'; go_simp; with_reducible rfl
        rotate_left
        · simp only [Act.put, List.setIfInBounds_toArray, List.set, i64_w, i32_w]
          rfl
        refine pure_ (i := 8) (N := some 36) (v := ?_) (a' := ?_) #[vT,vT,vT,vT,vF,vT,vT,vT,vT,vF,vF,vF,vF,vF,vF] rfl rfl (by kernel_rfl) (fun _ _ _ h => h) (Or.inl ⟨by rfl, ?_⟩) ?_ ?_
        rotate_left
        · intro w'; go_simp; with_reducible rfl
        rotate_left
        · simp only [Act.put, List.setIfInBounds_toArray, List.set, i64_w, i32_w]
          rfl
        refine pure_ (i := 10) (N := some 38) (v := ?_) (a' := ?_) #[vT,vT,vT,vT,vF,vT,vT,vT,vT,vF,vT,vF,vF,vF,vF] rfl rfl (by kernel_rfl) (fun _ _ _ h => h) (Or.inl ⟨by rfl, ?_⟩) ?_ ?_
        rotate_left
        · intro w'; go_simp; with_reducible rfl
        rotate_left
        · simp only [Act.put, List.setIfInBounds_toArray, List.set, i64_w, i32_w]
          rfl
        refine take_ (i := 4) (N := some 32) (v := ?_) (a' := ?_) #[vT,vT,vT,vT,vT,vT,vT,vT,vT,vF,vT,vF,vF,vF,vF] rfl rfl (by kernel_rfl) (fun _ _ _ h => h) (Or.inl ⟨by rfl, ?_⟩) hHeld ?_ ?_
        rotate_left
        · rintro w' ⟨s0, s1⟩; go_simp; with_reducible rfl
        rotate_left
        · simp only [Act.put, List.setIfInBounds_toArray, List.set, i64_w, i32_w]
          rfl
        refine take_ (i := 9) (N := some 37) (v := ?_) (a' := ?_) #[vT,vT,vT,vT,vT,vT,vT,vT,vT,vT,vT,vF,vF,vF,vF] rfl rfl (by kernel_rfl) (fun _ _ _ h => h) (Or.inl ⟨by rfl, ?_⟩) hHeld ?_ ?_
        rotate_left
        · rintro w' ⟨s0, s1⟩; go_simp; with_reducible rfl
        rotate_left
        · simp only [Act.put, List.setIfInBounds_toArray, List.set, i64_w, i32_w]
          rfl
        refine join_ (σ := Unit) 1 #[vT,vT,vT,vT,vT,vT,vT,vT,vT,vT,vT,vT,vT,vT,vF] (fun _ => [(39, Value.int .i64 (immOf (formOf m) wd)), (40, Value.agg #[.int .i64 (m : Int), .int .i64 0, .int .i64 0, .int .i64 0, .int .i64 (immOf (formOf m) wd)]), (6, Value.pointer (some ⟨W2.heap.size, 0, none⟩))]) (fun _ w' => Below W2.heap.size W2 w' ∧ w'.heap[W2.heap.size]? = some (.cells #[.int .i64 0, .int .i64 0, .int .i64 0, .int .i64 0, .int .i64 0] 42 (0, 0))) ?_ ?_
        rotate_left
        · intro hCont
          refine two_ (i := 11) (j := 13) (Ni := some 39) (Nj := some 6) #[vT,vT,vT,vT,vT,vT,vT,vT,vT,vT,vT,vT,vF,vF,vF] #[vT,vT,vT,vT,vT,vT,vT,vT,vT,vT,vT,vF,vF,vT,vF] rfl rfl rfl rfl (by kernel_rfl) (by decide) (by decide) (fun K hK => ?_) (fun K hK => ?_)
          · skip
            refine goes_ Tryz.func87 (by kernel_rfl) rfl #[.int .i64 ((formOf m : Nat) : Int), .int .u32 (wd : Int)] (by rfl) rfl rfl (by simp only [List.map_toArray, List.map_cons, List.map_nil]; rfl) ?_
            with_reducible refine (TK _).mono ?_
            rintro e w9 ⟨rfl, ⟨nn, rfl⟩⟩
            refine ⟨_, rfl, ?_⟩
            have L9 := pw_below_drewN L0 nn
            refine hK.out _ _ ⟨x0, x1⟩ (fun hHeld => ?_)
            clear hK K
            refine norm_ (a' := ?_) ?_ ?_
            rotate_left
            · show Act.put _ (some 39) _ = _; simp only [Act.put, List.setIfInBounds_toArray, List.set, i64_w, i32_w]; rfl
            refine pure_ (i := 12) (N := some 40) (v := ?_) (a' := ?_) #[vT,vT,vT,vT,vT,vT,vT,vT,vT,vT,vT,vT,vT,vF,vF] rfl rfl (by kernel_rfl) (fun _ _ _ h => h) (Or.inl ⟨by rfl, ?_⟩) ?_ ?_
            rotate_left
            · intro w'; go_simp; with_reducible rfl
            rotate_left
            · simp only [Act.put, List.setIfInBounds_toArray, List.set, i64_w, i32_w]
              rfl
            refine one_ (i := 13) (N := some 6) #[vT,vT,vT,vT,vT,vT,vT,vT,vT,vT,vT,vT,vT,vT,vF] rfl rfl (by kernel_rfl) (by decide) (fun K hK => ?_)
            refine value_ (w1 := ?_) (v := ?_) (by rfl) rfl ?_ ?_
            rotate_left 2
            · go_simp
              constructor
              · rfl
              · rfl
            have LB := below_alloc (show Below W2.heap.size W2 (W2.drewN (1 + nn)) from pw_below_drewN (Below.refl _ _) _) (.cells #[.int .i64 0, .int .i64 0, .int .i64 0, .int .i64 0, .int .i64 0] 42)
            have MB_ := blk_new (W2.drewN (1 + nn)) (.cells #[.int .i64 0, .int .i64 0, .int .i64 0, .int .i64 0, .int .i64 0] 42)
            refine hK.out _ _ ⟨kA _ x0, kA _ x1⟩ (fun hHeld => ?_)
            clear hK K
            refine norm_ (a' := ?_) ?_ ?_
            rotate_left
            · show Act.put _ (some 6) _ = _; simp only [Act.put, List.setIfInBounds_toArray, List.set, i64_w, i32_w]; rfl
            exact norm_ (by simp only [putAll, Act.put, List.setIfInBounds_toArray, List.set]) (hCont () _ ⟨LB, MB_⟩)
          · skip
            refine value_ (w1 := ?_) (v := ?_) (by rfl) rfl ?_ ?_
            rotate_left 2
            · go_simp
              constructor
              · rfl
              · rfl
            have LA := below_alloc L0 (.cells #[.int .i64 0, .int .i64 0, .int .i64 0, .int .i64 0, .int .i64 0] 42)
            have MA := blk_new W2.drew (.cells #[.int .i64 0, .int .i64 0, .int .i64 0, .int .i64 0, .int .i64 0] 42)
            refine hK.out _ _ ⟨kA _ x0, kA _ x1⟩ (fun hHeld => ?_)
            clear hK K
            refine norm_ (a' := ?_) ?_ ?_
            rotate_left
            · show Act.put _ (some 6) _ = _; simp only [Act.put, List.setIfInBounds_toArray, List.set, i64_w, i32_w]; rfl
            refine one_ (i := 11) (N := some 39) #[vT,vT,vT,vT,vT,vT,vT,vT,vT,vT,vT,vT,vF,vT,vF] rfl rfl (by kernel_rfl) (by decide) (fun K hK => ?_)
            refine goes_ Tryz.func87 (by kernel_rfl) rfl #[.int .i64 ((formOf m : Nat) : Int), .int .u32 (wd : Int)] (by rfl) rfl rfl (by simp only [List.map_toArray, List.map_cons, List.map_nil]; rfl) ?_
            with_reducible refine (TK _).mono ?_
            rintro e w9 ⟨rfl, ⟨nn, rfl⟩⟩
            refine ⟨_, rfl, ?_⟩
            have L9 := pw_below_drewN LA nn
            have M9 := blk_drewN MA nn
            refine hK.out _ _ ⟨kA _ x0, kA _ x1⟩ (fun hHeld => ?_)
            clear hK K
            refine norm_ (a' := ?_) ?_ ?_
            rotate_left
            · show Act.put _ (some 39) _ = _; simp only [Act.put, List.setIfInBounds_toArray, List.set, i64_w, i32_w]; rfl
            refine pure_ (i := 12) (N := some 40) (v := ?_) (a' := ?_) #[vT,vT,vT,vT,vT,vT,vT,vT,vT,vT,vT,vT,vT,vT,vF] rfl rfl (by kernel_rfl) (fun _ _ _ h => h) (Or.inl ⟨by rfl, ?_⟩) ?_ ?_
            rotate_left
            · intro w'; go_simp; with_reducible rfl
            rotate_left
            · simp only [Act.put, List.setIfInBounds_toArray, List.set, i64_w, i32_w]
              rfl
            exact norm_ (by simp only [putAll, Act.put, List.setIfInBounds_toArray, List.set]) (hCont () _ ⟨L9, M9⟩)
        rintro _ w9 ⟨L9, M9⟩
        have hHeld : w9.cell? ⟨b, i * 6, none⟩ = some (.int .i64 (m : Int)) ∧ w9.cell? ⟨b, i * 6 + 1, none⟩ = some (.int .i64 ((formOf m : Nat) : Int)) := ⟨kB L9 x0, kB L9 x1⟩
        have z0 := blk_cell M9 0
        have z1 := blk_cell M9 1
        have z2 := blk_cell M9 2
        have z3 := blk_cell M9 3
        have z4 := blk_cell M9 4
        simp only [List.getElem?_toArray, List.getElem?_cons_zero, List.getElem?_cons_succ] at z0 z1 z2 z3 z4
        have f0_ := blk_frozen M9 0
        have f1_ := blk_frozen M9 1
        have f2_ := blk_frozen M9 2
        have f3_ := blk_frozen M9 3
        have f4_ := blk_frozen M9 4
        refine norm_ (a' := ?_) ?_ ?_
        rotate_left
        · simp only [putAll, Act.put, List.setIfInBounds_toArray, List.set]
          rfl
        refine one_ (i := 14) (N := none) #[vT,vT,vT,vT,vT,vT,vT,vT,vT,vT,vT,vT,vT,vT,vT] rfl rfl (by kernel_rfl) (by decide) (fun K hK => ?_)
        refine skip_ (w1 := ?_) (by rfl) rfl ?_ ?_
        rotate_left
        · go_simp
          rfl
        refine hK.out _ _ ⟨kS5 (HLB.out) (hHeld.1), kS5 (HLB.out) (hHeld.2)⟩ (fun hHeld => ?_)
        clear hK K
        refine done_ (by kernel_rfl) ?_
        change Exit.then _ _ _ _ (put5 w9 W2.heap.size (.int .i64 (m : Int)) (.int .i64 0) (.int .i64 0) (.int .i64 0) (.int .i64 (immOf (formOf m) wd)))
        have hlt2 := HB2.out.size
        have hlt3 := HO2.out
        have hlt4 : w.heap.size < W2.heap.size := blk_lt hlt3
        have HZ := Aside0.mk (put5_block M9 (.int .i64 (m : Int)) (.int .i64 0) (.int .i64 0) (.int .i64 0) (.int .i64 (immOf (formOf m) wd)))
        have HR3 := Aside0.mk ((HR2.out.below L9).of (put5_far (.int .i64 (m : Int)) (.int .i64 0) (.int .i64 0) (.int .i64 0) (.int .i64 (immOf (formOf m) wd)) HLB.out))
        have HO3 := Aside0.mk (show Own w (put5 w9 W2.heap.size (.int .i64 (m : Int)) (.int .i64 0) (.int .i64 0) (.int .i64 0) (.int .i64 (immOf (formOf m) wd))) from (put5_far _ _ _ _ _ (Nat.ne_of_lt hlt4)).trans ((L9.block _ hlt4).trans hlt3))
        have HB3 := Aside0.mk (put5_below (.int .i64 (m : Int)) (.int .i64 0) (.int .i64 0) (.int .i64 0) (.int .i64 (immOf (formOf m) wd)) (below_step HB2.out L9) (Nat.le_of_lt hlt4))
        have HY := Aside0.mk (show (put5 w9 W2.heap.size (.int .i64 (m : Int)) (.int .i64 0) (.int .i64 0) (.int .i64 0) (.int .i64 (immOf (formOf m) wd))).cell? ⟨b, i * 6 + 1, none⟩ = some (.int .i64 ((formOf m : Nat) : Int)) from by unfold put5; exact hHeld.2)
        have HL6 := Aside0.mk hlt4
        clear hlt2 hlt3 hlt4 z0 z1 z2 z3 z4 f0_ f1_ f2_ f3_ f4_ hHeld M9 L9 L0 HR2 HO2 HB2 x0 x1 TK hb
        generalize put5 w9 W2.heap.size (.int .i64 (m : Int)) (.int .i64 0) (.int .i64 0) (.int .i64 0) (.int .i64 (immOf (formOf m) wd)) = W3 at HZ HR3 HO3 HB3 HY ⊢
        generalize W2.heap.size = g6 at HZ HL6 HLB ⊢
        have NM : ∀ W, Calls Tryz.prog 29 #[.int .i64 ((formOf m : Nat) : Int)] W fun e w' => e = .returned (.tuple #[.bool (nd (formOf m)), .bool (ns (formOf m)), .bool (nt (formOf m))]) ∧ Drawn0 W w' := fun W => ravelinref15_Named.calls 100 _ _ _ _ W (named_eq 97 _ f1 f8)
        have y1 := HY.out
        clear HY
        have EN : ∀ W, Calls Tryz.prog 17 #[.agg #[.int .i64 (m : Int), .int .i64 ((fdOf m wd : Nat) : Int), .int .i64 ((fs1Of m wd : Nat) : Int), .int .i64 ((fs2Of m wd : Nat) : Int), .int .i64 (immOf (formOf m) wd)]] W fun e w' => e = .returned (.tuple #[.int .u32 ((encW m (fdOf m wd : Nat) (fs1Of m wd : Nat) (fs2Of m wd : Nat) (immOf (formOf m) wd) : Nat) : Int), .int .i64 0]) ∧ Below W.heap.size W w' := fun W => by
          have h := enc_eq 100 (by omega) m h0 h1 (fdOf m wd : Nat) (fs1Of m wd : Nat) (fs2Of m wd : Nat) (immOf (formOf m) wd)
          rw [if_pos (regs_of m wd), if_pos (fits_of m wd f1 f8)] at h
          exact ravelinref15_Encode.calls 100 _ _ _ _ _ _ _ W h
        have EH := Aside0.mk (enc_hit m wd h0 h1 hw hci.out)
        have DY := Aside0.mk (fun h => decV_yes (n := m) (wd := wd) h0 h1 h)
        have PT7 : ∀ W, Calls Tryz.prog 86 #[.int .u32 (wd : Int), .int .i64 7, .int .i64 5] W fun e w' => e = .returned (.int .i64 ((wd / 128 % 32 : Nat) : Int)) ∧ Drawn0 W w' := fun W => PT.out 7 5 128 32 (by omega) (by omega) rfl rfl W
        have PT15 : ∀ W, Calls Tryz.prog 86 #[.int .u32 (wd : Int), .int .i64 15, .int .i64 5] W fun e w' => e = .returned (.int .i64 ((wd / 32768 % 32 : Nat) : Int)) ∧ Drawn0 W w' := fun W => PT.out 15 5 32768 32 (by omega) (by omega) rfl rfl W
        have PT20 : ∀ W, Calls Tryz.prog 86 #[.int .u32 (wd : Int), .int .i64 20, .int .i64 5] W fun e w' => e = .returned (.int .i64 ((wd / 1048576 % 32 : Nat) : Int)) ∧ Drawn0 W w' := fun W => PT.out 20 5 1048576 32 (by omega) (by omega) rfl rfl W
        have hcomb := combos m wd f1 f8
        have HNM := Aside0.mk NM
        clear NM f1 f8 fc f3 f7 hci hw h0 h1
        rcases hcomb with ⟨hd, hs, ht, ed, es, et⟩ | ⟨hd, hs, ht, ed, es, et⟩ | ⟨hd, hs, ht, ed, es, et⟩ | ⟨hd, hs, ht, ed, es, et⟩
        · rw [hd, hs, ht] at HNM
          rw [← ed] at PT7
          rw [es] at EN EH
          rw [et] at EN EH
          have HE := Aside0.mk (show insOf m wd = .agg #[.int .i64 (m : Int), .int .i64 ((fdOf m wd : Nat) : Int), .int .i64 ((0 : Nat) : Int), .int .i64 ((0 : Nat) : Int), .int .i64 (immOf (formOf m) wd)] from by unfold insOf; rw [es, et])
          rw [HE.out] at DY
          clear HE ed es et hd hs ht
          have HEN := Aside0.mk EN
          have NM := HNM.out
          clear HNM EN
          generalize immOf (formOf m) wd = im at *
          generalize fdOf m wd = d1 at *
          go_wp2_with fail
          refine (NM _).mono ?_
          rintro e w10 ⟨rfl, ⟨nn, rfl⟩⟩
          have HZ4 := Aside0.mk (blk_drewN HZ.out nn)
          have HR4 := Aside0.mk (show RowsAt (W3.drewN nn) b from HR3.out)
          have HO4 := Aside0.mk (show Own w (W3.drewN nn) from HO3.out)
          have HB4 := Aside0.mk (pw_below_drewN HB3.out nn)
          clear HZ HR3 HO3 HB3 NM y1
          generalize W3.drewN nn = W4 at *
          go_wp2_with fail
          refine (PT7 _).mono ?_
          rintro e w11 ⟨rfl, ⟨nn, rfl⟩⟩
          have HZ5 := Aside0.mk (blk_drewN HZ4.out nn)
          have HR5 := Aside0.mk (show RowsAt ((W4).drewN nn) b from HR4.out)
          have HO5 := Aside0.mk (show Own w ((W4).drewN nn) from HO4.out)
          have HB5 := Aside0.mk (pw_below_drewN HB4.out nn)
          clear HZ4 HR4 HO4 HB4
          generalize (W4).drewN nn = W5 at *
          have HZ6 := Aside0.mk (blk_put (cs' := #[.int .i64 (m : Int), .int .i64 ((d1 : Nat) : Int), .int .i64 0, .int .i64 0, .int .i64 im]) HZ5.out 1 (.int .i64 ((d1 : Nat) : Int)) rfl)
          have HR6 := Aside0.mk (HR5.out.of (Below.heap_setCell W5 ⟨g6, 1, none⟩ (.int .i64 ((d1 : Nat) : Int)) b HLB.out))
          have HO6 := Aside0.mk (show Own w (W5.setCell ⟨g6, 1, none⟩ (.int .i64 ((d1 : Nat) : Int))) from (Below.heap_setCell W5 ⟨g6, 1, none⟩ (.int .i64 ((d1 : Nat) : Int)) w.heap.size (Nat.ne_of_lt HL6.out)).trans HO5.out)
          have HB6 := Aside0.mk (HB5.out.setCell (p := ⟨g6, 1, none⟩) (Nat.le_of_lt HL6.out) (.int .i64 ((d1 : Nat) : Int)))
          skip
          have zc0 := blk_cell HZ5.out 0
          have zc1 := blk_cell HZ5.out 1
          have zc2 := blk_cell HZ5.out 2
          have zc3 := blk_cell HZ5.out 3
          have zc4 := blk_cell HZ5.out 4
          have zf := blk_frozen HZ5.out 1
          simp only [List.getElem?_toArray, List.getElem?_cons_zero, List.getElem?_cons_succ] at zc0 zc1 zc2 zc3 zc4
          clear HZ5 HR5 HO5 HB5
          have EN := HEN.out
          go_wp2_with fail
          refine (EN _).mono ?_
          rintro e w20 ⟨rfl, hb20⟩
          clear zf zc0 zc1 zc2 zc3 zc4 EN HEN
          have HZ20 := Aside0.mk (blk_below HZ6.out hb20)
          have HR20 := Aside0.mk (HR6.out.below hb20)
          have HO20 := Aside0.mk (show Own w w20 from (hb20.block w.heap.size (blk_lt HO6.out)).trans HO6.out)
          have HB20 := Aside0.mk (below_step HB6.out hb20)
          clear HZ6 HR6 HO6 HB6 hb20
          by_cases hh : hit m wd = true
          · have q := EH.out.2 hh
            have DY := Aside0.mk (DY.out hh)
            rw [q]
            clear q EH HX hh
            have zc0 := blk_cell HZ20.out 0
            have zc1 := blk_cell HZ20.out 1
            have zc2 := blk_cell HZ20.out 2
            have zc3 := blk_cell HZ20.out 3
            have zc4 := blk_cell HZ20.out 4
            have hown := HO20.out
            unfold Own at hown
            have yc0 := blk_cell hown 0
            have yc1 := blk_cell hown 1
            have yc2 := blk_cell hown 2
            have yc3 := blk_cell hown 3
            have yc4 := blk_cell hown 4
            have yf0 := blk_frozen hown 0
            have yf1 := blk_frozen hown 1
            have yf2 := blk_frozen hown 2
            have yf3 := blk_frozen hown 3
            have yf4 := blk_frozen hown 4
            simp only [List.getElem?_toArray, List.getElem?_cons_zero, List.getElem?_cons_succ] at zc0 zc1 zc2 zc3 zc4 yc0 yc1 yc2 yc3 yc4
            have HOWN := Aside0.mk hown
            clear hown
            go_wp2_with fail
            have HP := Aside0.mk (put5_block HOWN.out (.int .i64 (m : Int)) (.int .i64 ((d1 : Nat) : Int)) (.int .i64 0) (.int .i64 0) (.int .i64 im))
            have HQ := Aside0.mk (put5_below (.int .i64 (m : Int)) (.int .i64 ((d1 : Nat) : Int)) (.int .i64 0) (.int .i64 0) (.int .i64 im) HB20.out (Nat.le_refl _))
            refine bodyPost_ret (results_ct rfl _ _ w.heap.size 42 #[.int .i64 (m : Int), .int .i64 ((d1 : Nat) : Int), .int .i64 0, .int .i64 0, .int .i64 im] (0, 0) _ rfl HP.out Tryz.underlying42 rfl (by kernel_rfl)) rfl ?_
            exact ⟨by rw [DY.out]; rfl, HQ.out⟩
          · have hf := Bool.eq_false_iff.2 hh
            have q : ¬ _ = wd := fun e => hh (EH.out.1 e)
            have hN := Aside0.mk (HX.out hf)
            clear HX EH hf hh DY
            generalize encW m _ _ _ im = ew at q ⊢
            have q1 : ((ew : Int) == (wd : Int)) = false := by rw [beq_eq_false_iff_ne]; omega
            clear q
            go_wp2_with fail
            go_roundw
            case rel => exact ⟨i + 1, by go_num, by omega, ⟨hN.out⟩, HR20, HO20, HB20⟩
            case measure => simp [intOf]; omega
        · rw [hd, hs, ht] at HNM
          rw [← ed] at PT7
          rw [← es] at PT15
          rw [et] at EN EH
          have HE := Aside0.mk (show insOf m wd = .agg #[.int .i64 (m : Int), .int .i64 ((fdOf m wd : Nat) : Int), .int .i64 ((fs1Of m wd : Nat) : Int), .int .i64 ((0 : Nat) : Int), .int .i64 (immOf (formOf m) wd)] from by unfold insOf; rw [et])
          rw [HE.out] at DY
          clear HE ed es et hd hs ht
          have HEN := Aside0.mk EN
          have NM := HNM.out
          clear HNM EN
          generalize immOf (formOf m) wd = im at *
          generalize fdOf m wd = d1 at *
          generalize fs1Of m wd = d2 at *
          go_wp2_with fail
          refine (NM _).mono ?_
          rintro e w10 ⟨rfl, ⟨nn, rfl⟩⟩
          have HZ4 := Aside0.mk (blk_drewN HZ.out nn)
          have HR4 := Aside0.mk (show RowsAt (W3.drewN nn) b from HR3.out)
          have HO4 := Aside0.mk (show Own w (W3.drewN nn) from HO3.out)
          have HB4 := Aside0.mk (pw_below_drewN HB3.out nn)
          clear HZ HR3 HO3 HB3 NM y1
          generalize W3.drewN nn = W4 at *
          go_wp2_with fail
          refine (PT7 _).mono ?_
          rintro e w11 ⟨rfl, ⟨nn, rfl⟩⟩
          have HZ5 := Aside0.mk (blk_drewN HZ4.out nn)
          have HR5 := Aside0.mk (show RowsAt ((W4).drewN nn) b from HR4.out)
          have HO5 := Aside0.mk (show Own w ((W4).drewN nn) from HO4.out)
          have HB5 := Aside0.mk (pw_below_drewN HB4.out nn)
          clear HZ4 HR4 HO4 HB4
          generalize (W4).drewN nn = W5 at *
          have HZ6 := Aside0.mk (blk_put (cs' := #[.int .i64 (m : Int), .int .i64 ((d1 : Nat) : Int), .int .i64 0, .int .i64 0, .int .i64 im]) HZ5.out 1 (.int .i64 ((d1 : Nat) : Int)) rfl)
          have HR6 := Aside0.mk (HR5.out.of (Below.heap_setCell W5 ⟨g6, 1, none⟩ (.int .i64 ((d1 : Nat) : Int)) b HLB.out))
          have HO6 := Aside0.mk (show Own w (W5.setCell ⟨g6, 1, none⟩ (.int .i64 ((d1 : Nat) : Int))) from (Below.heap_setCell W5 ⟨g6, 1, none⟩ (.int .i64 ((d1 : Nat) : Int)) w.heap.size (Nat.ne_of_lt HL6.out)).trans HO5.out)
          have HB6 := Aside0.mk (HB5.out.setCell (p := ⟨g6, 1, none⟩) (Nat.le_of_lt HL6.out) (.int .i64 ((d1 : Nat) : Int)))
          skip
          have zc0 := blk_cell HZ5.out 0
          have zc1 := blk_cell HZ5.out 1
          have zc2 := blk_cell HZ5.out 2
          have zc3 := blk_cell HZ5.out 3
          have zc4 := blk_cell HZ5.out 4
          have zf := blk_frozen HZ5.out 1
          simp only [List.getElem?_toArray, List.getElem?_cons_zero, List.getElem?_cons_succ] at zc0 zc1 zc2 zc3 zc4
          clear HZ5 HR5 HO5 HB5
          go_wp2_with fail
          refine (PT15 _).mono ?_
          rintro e w11 ⟨rfl, ⟨nn, rfl⟩⟩
          have HZ7 := Aside0.mk (blk_drewN HZ6.out nn)
          have HR7 := Aside0.mk (show RowsAt ((W5.setCell ⟨g6, 1, none⟩ (.int .i64 ((d1 : Nat) : Int))).drewN nn) b from HR6.out)
          have HO7 := Aside0.mk (show Own w ((W5.setCell ⟨g6, 1, none⟩ (.int .i64 ((d1 : Nat) : Int))).drewN nn) from HO6.out)
          have HB7 := Aside0.mk (pw_below_drewN HB6.out nn)
          clear HZ6 HR6 HO6 HB6
          generalize (W5.setCell ⟨g6, 1, none⟩ (.int .i64 ((d1 : Nat) : Int))).drewN nn = W7 at *
          have HZ8 := Aside0.mk (blk_put (cs' := #[.int .i64 (m : Int), .int .i64 ((d1 : Nat) : Int), .int .i64 ((d2 : Nat) : Int), .int .i64 0, .int .i64 im]) HZ7.out 2 (.int .i64 ((d2 : Nat) : Int)) rfl)
          have HR8 := Aside0.mk (HR7.out.of (Below.heap_setCell W7 ⟨g6, 2, none⟩ (.int .i64 ((d2 : Nat) : Int)) b HLB.out))
          have HO8 := Aside0.mk (show Own w (W7.setCell ⟨g6, 2, none⟩ (.int .i64 ((d2 : Nat) : Int))) from (Below.heap_setCell W7 ⟨g6, 2, none⟩ (.int .i64 ((d2 : Nat) : Int)) w.heap.size (Nat.ne_of_lt HL6.out)).trans HO7.out)
          have HB8 := Aside0.mk (HB7.out.setCell (p := ⟨g6, 2, none⟩) (Nat.le_of_lt HL6.out) (.int .i64 ((d2 : Nat) : Int)))
          clear zc0 zc1 zc2 zc3 zc4 zf
          have zc0 := blk_cell HZ7.out 0
          have zc1 := blk_cell HZ7.out 1
          have zc2 := blk_cell HZ7.out 2
          have zc3 := blk_cell HZ7.out 3
          have zc4 := blk_cell HZ7.out 4
          have zf := blk_frozen HZ7.out 2
          simp only [List.getElem?_toArray, List.getElem?_cons_zero, List.getElem?_cons_succ] at zc0 zc1 zc2 zc3 zc4
          clear HZ7 HR7 HO7 HB7
          have EN := HEN.out
          go_wp2_with fail
          refine (EN _).mono ?_
          rintro e w20 ⟨rfl, hb20⟩
          clear zf zc0 zc1 zc2 zc3 zc4 EN HEN
          have HZ20 := Aside0.mk (blk_below HZ8.out hb20)
          have HR20 := Aside0.mk (HR8.out.below hb20)
          have HO20 := Aside0.mk (show Own w w20 from (hb20.block w.heap.size (blk_lt HO8.out)).trans HO8.out)
          have HB20 := Aside0.mk (below_step HB8.out hb20)
          clear HZ8 HR8 HO8 HB8 hb20
          by_cases hh : hit m wd = true
          · have q := EH.out.2 hh
            have DY := Aside0.mk (DY.out hh)
            rw [q]
            clear q EH HX hh
            have zc0 := blk_cell HZ20.out 0
            have zc1 := blk_cell HZ20.out 1
            have zc2 := blk_cell HZ20.out 2
            have zc3 := blk_cell HZ20.out 3
            have zc4 := blk_cell HZ20.out 4
            have hown := HO20.out
            unfold Own at hown
            have yc0 := blk_cell hown 0
            have yc1 := blk_cell hown 1
            have yc2 := blk_cell hown 2
            have yc3 := blk_cell hown 3
            have yc4 := blk_cell hown 4
            have yf0 := blk_frozen hown 0
            have yf1 := blk_frozen hown 1
            have yf2 := blk_frozen hown 2
            have yf3 := blk_frozen hown 3
            have yf4 := blk_frozen hown 4
            simp only [List.getElem?_toArray, List.getElem?_cons_zero, List.getElem?_cons_succ] at zc0 zc1 zc2 zc3 zc4 yc0 yc1 yc2 yc3 yc4
            have HOWN := Aside0.mk hown
            clear hown
            go_wp2_with fail
            have HP := Aside0.mk (put5_block HOWN.out (.int .i64 (m : Int)) (.int .i64 ((d1 : Nat) : Int)) (.int .i64 ((d2 : Nat) : Int)) (.int .i64 0) (.int .i64 im))
            have HQ := Aside0.mk (put5_below (.int .i64 (m : Int)) (.int .i64 ((d1 : Nat) : Int)) (.int .i64 ((d2 : Nat) : Int)) (.int .i64 0) (.int .i64 im) HB20.out (Nat.le_refl _))
            refine bodyPost_ret (results_ct rfl _ _ w.heap.size 42 #[.int .i64 (m : Int), .int .i64 ((d1 : Nat) : Int), .int .i64 ((d2 : Nat) : Int), .int .i64 0, .int .i64 im] (0, 0) _ rfl HP.out Tryz.underlying42 rfl (by kernel_rfl)) rfl ?_
            exact ⟨by rw [DY.out]; rfl, HQ.out⟩
          · have hf := Bool.eq_false_iff.2 hh
            have q : ¬ _ = wd := fun e => hh (EH.out.1 e)
            have hN := Aside0.mk (HX.out hf)
            clear HX EH hf hh DY
            generalize encW m _ _ _ im = ew at q ⊢
            have q1 : ((ew : Int) == (wd : Int)) = false := by rw [beq_eq_false_iff_ne]; omega
            clear q
            go_wp2_with fail
            go_roundw
            case rel => exact ⟨i + 1, by go_num, by omega, ⟨hN.out⟩, HR20, HO20, HB20⟩
            case measure => simp [intOf]; omega
        · rw [hd, hs, ht] at HNM
          rw [ed] at EN EH
          rw [← es] at PT15
          rw [← et] at PT20
          have HE := Aside0.mk (show insOf m wd = .agg #[.int .i64 (m : Int), .int .i64 ((0 : Nat) : Int), .int .i64 ((fs1Of m wd : Nat) : Int), .int .i64 ((fs2Of m wd : Nat) : Int), .int .i64 (immOf (formOf m) wd)] from by unfold insOf; rw [ed])
          rw [HE.out] at DY
          clear HE ed es et hd hs ht
          have HEN := Aside0.mk EN
          have NM := HNM.out
          clear HNM EN
          generalize immOf (formOf m) wd = im at *
          generalize fs1Of m wd = d2 at *
          generalize fs2Of m wd = d3 at *
          go_wp2_with fail
          refine (NM _).mono ?_
          rintro e w10 ⟨rfl, ⟨nn, rfl⟩⟩
          have HZ4 := Aside0.mk (blk_drewN HZ.out nn)
          have HR4 := Aside0.mk (show RowsAt (W3.drewN nn) b from HR3.out)
          have HO4 := Aside0.mk (show Own w (W3.drewN nn) from HO3.out)
          have HB4 := Aside0.mk (pw_below_drewN HB3.out nn)
          clear HZ HR3 HO3 HB3 NM y1
          generalize W3.drewN nn = W4 at *
          go_wp2_with fail
          refine (PT15 _).mono ?_
          rintro e w11 ⟨rfl, ⟨nn, rfl⟩⟩
          have HZ5 := Aside0.mk (blk_drewN HZ4.out nn)
          have HR5 := Aside0.mk (show RowsAt ((W4).drewN nn) b from HR4.out)
          have HO5 := Aside0.mk (show Own w ((W4).drewN nn) from HO4.out)
          have HB5 := Aside0.mk (pw_below_drewN HB4.out nn)
          clear HZ4 HR4 HO4 HB4
          generalize (W4).drewN nn = W5 at *
          have HZ6 := Aside0.mk (blk_put (cs' := #[.int .i64 (m : Int), .int .i64 0, .int .i64 ((d2 : Nat) : Int), .int .i64 0, .int .i64 im]) HZ5.out 2 (.int .i64 ((d2 : Nat) : Int)) rfl)
          have HR6 := Aside0.mk (HR5.out.of (Below.heap_setCell W5 ⟨g6, 2, none⟩ (.int .i64 ((d2 : Nat) : Int)) b HLB.out))
          have HO6 := Aside0.mk (show Own w (W5.setCell ⟨g6, 2, none⟩ (.int .i64 ((d2 : Nat) : Int))) from (Below.heap_setCell W5 ⟨g6, 2, none⟩ (.int .i64 ((d2 : Nat) : Int)) w.heap.size (Nat.ne_of_lt HL6.out)).trans HO5.out)
          have HB6 := Aside0.mk (HB5.out.setCell (p := ⟨g6, 2, none⟩) (Nat.le_of_lt HL6.out) (.int .i64 ((d2 : Nat) : Int)))
          skip
          have zc0 := blk_cell HZ5.out 0
          have zc1 := blk_cell HZ5.out 1
          have zc2 := blk_cell HZ5.out 2
          have zc3 := blk_cell HZ5.out 3
          have zc4 := blk_cell HZ5.out 4
          have zf := blk_frozen HZ5.out 2
          simp only [List.getElem?_toArray, List.getElem?_cons_zero, List.getElem?_cons_succ] at zc0 zc1 zc2 zc3 zc4
          clear HZ5 HR5 HO5 HB5
          go_wp2_with fail
          refine (PT20 _).mono ?_
          rintro e w11 ⟨rfl, ⟨nn, rfl⟩⟩
          have HZ7 := Aside0.mk (blk_drewN HZ6.out nn)
          have HR7 := Aside0.mk (show RowsAt ((W5.setCell ⟨g6, 2, none⟩ (.int .i64 ((d2 : Nat) : Int))).drewN nn) b from HR6.out)
          have HO7 := Aside0.mk (show Own w ((W5.setCell ⟨g6, 2, none⟩ (.int .i64 ((d2 : Nat) : Int))).drewN nn) from HO6.out)
          have HB7 := Aside0.mk (pw_below_drewN HB6.out nn)
          clear HZ6 HR6 HO6 HB6
          generalize (W5.setCell ⟨g6, 2, none⟩ (.int .i64 ((d2 : Nat) : Int))).drewN nn = W7 at *
          have HZ8 := Aside0.mk (blk_put (cs' := #[.int .i64 (m : Int), .int .i64 0, .int .i64 ((d2 : Nat) : Int), .int .i64 ((d3 : Nat) : Int), .int .i64 im]) HZ7.out 3 (.int .i64 ((d3 : Nat) : Int)) rfl)
          have HR8 := Aside0.mk (HR7.out.of (Below.heap_setCell W7 ⟨g6, 3, none⟩ (.int .i64 ((d3 : Nat) : Int)) b HLB.out))
          have HO8 := Aside0.mk (show Own w (W7.setCell ⟨g6, 3, none⟩ (.int .i64 ((d3 : Nat) : Int))) from (Below.heap_setCell W7 ⟨g6, 3, none⟩ (.int .i64 ((d3 : Nat) : Int)) w.heap.size (Nat.ne_of_lt HL6.out)).trans HO7.out)
          have HB8 := Aside0.mk (HB7.out.setCell (p := ⟨g6, 3, none⟩) (Nat.le_of_lt HL6.out) (.int .i64 ((d3 : Nat) : Int)))
          clear zc0 zc1 zc2 zc3 zc4 zf
          have zc0 := blk_cell HZ7.out 0
          have zc1 := blk_cell HZ7.out 1
          have zc2 := blk_cell HZ7.out 2
          have zc3 := blk_cell HZ7.out 3
          have zc4 := blk_cell HZ7.out 4
          have zf := blk_frozen HZ7.out 3
          simp only [List.getElem?_toArray, List.getElem?_cons_zero, List.getElem?_cons_succ] at zc0 zc1 zc2 zc3 zc4
          clear HZ7 HR7 HO7 HB7
          have EN := HEN.out
          go_wp2_with fail
          refine (EN _).mono ?_
          rintro e w20 ⟨rfl, hb20⟩
          clear zf zc0 zc1 zc2 zc3 zc4 EN HEN
          have HZ20 := Aside0.mk (blk_below HZ8.out hb20)
          have HR20 := Aside0.mk (HR8.out.below hb20)
          have HO20 := Aside0.mk (show Own w w20 from (hb20.block w.heap.size (blk_lt HO8.out)).trans HO8.out)
          have HB20 := Aside0.mk (below_step HB8.out hb20)
          clear HZ8 HR8 HO8 HB8 hb20
          by_cases hh : hit m wd = true
          · have q := EH.out.2 hh
            have DY := Aside0.mk (DY.out hh)
            rw [q]
            clear q EH HX hh
            have zc0 := blk_cell HZ20.out 0
            have zc1 := blk_cell HZ20.out 1
            have zc2 := blk_cell HZ20.out 2
            have zc3 := blk_cell HZ20.out 3
            have zc4 := blk_cell HZ20.out 4
            have hown := HO20.out
            unfold Own at hown
            have yc0 := blk_cell hown 0
            have yc1 := blk_cell hown 1
            have yc2 := blk_cell hown 2
            have yc3 := blk_cell hown 3
            have yc4 := blk_cell hown 4
            have yf0 := blk_frozen hown 0
            have yf1 := blk_frozen hown 1
            have yf2 := blk_frozen hown 2
            have yf3 := blk_frozen hown 3
            have yf4 := blk_frozen hown 4
            simp only [List.getElem?_toArray, List.getElem?_cons_zero, List.getElem?_cons_succ] at zc0 zc1 zc2 zc3 zc4 yc0 yc1 yc2 yc3 yc4
            have HOWN := Aside0.mk hown
            clear hown
            go_wp2_with fail
            have HP := Aside0.mk (put5_block HOWN.out (.int .i64 (m : Int)) (.int .i64 0) (.int .i64 ((d2 : Nat) : Int)) (.int .i64 ((d3 : Nat) : Int)) (.int .i64 im))
            have HQ := Aside0.mk (put5_below (.int .i64 (m : Int)) (.int .i64 0) (.int .i64 ((d2 : Nat) : Int)) (.int .i64 ((d3 : Nat) : Int)) (.int .i64 im) HB20.out (Nat.le_refl _))
            refine bodyPost_ret (results_ct rfl _ _ w.heap.size 42 #[.int .i64 (m : Int), .int .i64 0, .int .i64 ((d2 : Nat) : Int), .int .i64 ((d3 : Nat) : Int), .int .i64 im] (0, 0) _ rfl HP.out Tryz.underlying42 rfl (by kernel_rfl)) rfl ?_
            exact ⟨by rw [DY.out]; rfl, HQ.out⟩
          · have hf := Bool.eq_false_iff.2 hh
            have q : ¬ _ = wd := fun e => hh (EH.out.1 e)
            have hN := Aside0.mk (HX.out hf)
            clear HX EH hf hh DY
            generalize encW m _ _ _ im = ew at q ⊢
            have q1 : ((ew : Int) == (wd : Int)) = false := by rw [beq_eq_false_iff_ne]; omega
            clear q
            go_wp2_with fail
            go_roundw
            case rel => exact ⟨i + 1, by go_num, by omega, ⟨hN.out⟩, HR20, HO20, HB20⟩
            case measure => simp [intOf]; omega
        · rw [hd, hs, ht] at HNM
          rw [← ed] at PT7
          rw [← es] at PT15
          rw [← et] at PT20
          have HE := Aside0.mk (show insOf m wd = .agg #[.int .i64 (m : Int), .int .i64 ((fdOf m wd : Nat) : Int), .int .i64 ((fs1Of m wd : Nat) : Int), .int .i64 ((fs2Of m wd : Nat) : Int), .int .i64 (immOf (formOf m) wd)] from by unfold insOf; rfl)
          rw [HE.out] at DY
          clear HE ed es et hd hs ht
          have HEN := Aside0.mk EN
          have NM := HNM.out
          clear HNM EN
          generalize immOf (formOf m) wd = im at *
          generalize fdOf m wd = d1 at *
          generalize fs1Of m wd = d2 at *
          generalize fs2Of m wd = d3 at *
          go_wp2_with fail
          refine (NM _).mono ?_
          rintro e w10 ⟨rfl, ⟨nn, rfl⟩⟩
          have HZ4 := Aside0.mk (blk_drewN HZ.out nn)
          have HR4 := Aside0.mk (show RowsAt (W3.drewN nn) b from HR3.out)
          have HO4 := Aside0.mk (show Own w (W3.drewN nn) from HO3.out)
          have HB4 := Aside0.mk (pw_below_drewN HB3.out nn)
          clear HZ HR3 HO3 HB3 NM y1
          generalize W3.drewN nn = W4 at *
          go_wp2_with fail
          refine (PT7 _).mono ?_
          rintro e w11 ⟨rfl, ⟨nn, rfl⟩⟩
          have HZ5 := Aside0.mk (blk_drewN HZ4.out nn)
          have HR5 := Aside0.mk (show RowsAt ((W4).drewN nn) b from HR4.out)
          have HO5 := Aside0.mk (show Own w ((W4).drewN nn) from HO4.out)
          have HB5 := Aside0.mk (pw_below_drewN HB4.out nn)
          clear HZ4 HR4 HO4 HB4
          generalize (W4).drewN nn = W5 at *
          have HZ6 := Aside0.mk (blk_put (cs' := #[.int .i64 (m : Int), .int .i64 ((d1 : Nat) : Int), .int .i64 0, .int .i64 0, .int .i64 im]) HZ5.out 1 (.int .i64 ((d1 : Nat) : Int)) rfl)
          have HR6 := Aside0.mk (HR5.out.of (Below.heap_setCell W5 ⟨g6, 1, none⟩ (.int .i64 ((d1 : Nat) : Int)) b HLB.out))
          have HO6 := Aside0.mk (show Own w (W5.setCell ⟨g6, 1, none⟩ (.int .i64 ((d1 : Nat) : Int))) from (Below.heap_setCell W5 ⟨g6, 1, none⟩ (.int .i64 ((d1 : Nat) : Int)) w.heap.size (Nat.ne_of_lt HL6.out)).trans HO5.out)
          have HB6 := Aside0.mk (HB5.out.setCell (p := ⟨g6, 1, none⟩) (Nat.le_of_lt HL6.out) (.int .i64 ((d1 : Nat) : Int)))
          skip
          have zc0 := blk_cell HZ5.out 0
          have zc1 := blk_cell HZ5.out 1
          have zc2 := blk_cell HZ5.out 2
          have zc3 := blk_cell HZ5.out 3
          have zc4 := blk_cell HZ5.out 4
          have zf := blk_frozen HZ5.out 1
          simp only [List.getElem?_toArray, List.getElem?_cons_zero, List.getElem?_cons_succ] at zc0 zc1 zc2 zc3 zc4
          clear HZ5 HR5 HO5 HB5
          go_wp2_with fail
          refine (PT15 _).mono ?_
          rintro e w11 ⟨rfl, ⟨nn, rfl⟩⟩
          have HZ7 := Aside0.mk (blk_drewN HZ6.out nn)
          have HR7 := Aside0.mk (show RowsAt ((W5.setCell ⟨g6, 1, none⟩ (.int .i64 ((d1 : Nat) : Int))).drewN nn) b from HR6.out)
          have HO7 := Aside0.mk (show Own w ((W5.setCell ⟨g6, 1, none⟩ (.int .i64 ((d1 : Nat) : Int))).drewN nn) from HO6.out)
          have HB7 := Aside0.mk (pw_below_drewN HB6.out nn)
          clear HZ6 HR6 HO6 HB6
          generalize (W5.setCell ⟨g6, 1, none⟩ (.int .i64 ((d1 : Nat) : Int))).drewN nn = W7 at *
          have HZ8 := Aside0.mk (blk_put (cs' := #[.int .i64 (m : Int), .int .i64 ((d1 : Nat) : Int), .int .i64 ((d2 : Nat) : Int), .int .i64 0, .int .i64 im]) HZ7.out 2 (.int .i64 ((d2 : Nat) : Int)) rfl)
          have HR8 := Aside0.mk (HR7.out.of (Below.heap_setCell W7 ⟨g6, 2, none⟩ (.int .i64 ((d2 : Nat) : Int)) b HLB.out))
          have HO8 := Aside0.mk (show Own w (W7.setCell ⟨g6, 2, none⟩ (.int .i64 ((d2 : Nat) : Int))) from (Below.heap_setCell W7 ⟨g6, 2, none⟩ (.int .i64 ((d2 : Nat) : Int)) w.heap.size (Nat.ne_of_lt HL6.out)).trans HO7.out)
          have HB8 := Aside0.mk (HB7.out.setCell (p := ⟨g6, 2, none⟩) (Nat.le_of_lt HL6.out) (.int .i64 ((d2 : Nat) : Int)))
          clear zc0 zc1 zc2 zc3 zc4 zf
          have zc0 := blk_cell HZ7.out 0
          have zc1 := blk_cell HZ7.out 1
          have zc2 := blk_cell HZ7.out 2
          have zc3 := blk_cell HZ7.out 3
          have zc4 := blk_cell HZ7.out 4
          have zf := blk_frozen HZ7.out 2
          simp only [List.getElem?_toArray, List.getElem?_cons_zero, List.getElem?_cons_succ] at zc0 zc1 zc2 zc3 zc4
          clear HZ7 HR7 HO7 HB7
          go_wp2_with fail
          refine (PT20 _).mono ?_
          rintro e w11 ⟨rfl, ⟨nn, rfl⟩⟩
          have HZ9 := Aside0.mk (blk_drewN HZ8.out nn)
          have HR9 := Aside0.mk (show RowsAt ((W7.setCell ⟨g6, 2, none⟩ (.int .i64 ((d2 : Nat) : Int))).drewN nn) b from HR8.out)
          have HO9 := Aside0.mk (show Own w ((W7.setCell ⟨g6, 2, none⟩ (.int .i64 ((d2 : Nat) : Int))).drewN nn) from HO8.out)
          have HB9 := Aside0.mk (pw_below_drewN HB8.out nn)
          clear HZ8 HR8 HO8 HB8
          generalize (W7.setCell ⟨g6, 2, none⟩ (.int .i64 ((d2 : Nat) : Int))).drewN nn = W9 at *
          have HZ10 := Aside0.mk (blk_put (cs' := #[.int .i64 (m : Int), .int .i64 ((d1 : Nat) : Int), .int .i64 ((d2 : Nat) : Int), .int .i64 ((d3 : Nat) : Int), .int .i64 im]) HZ9.out 3 (.int .i64 ((d3 : Nat) : Int)) rfl)
          have HR10 := Aside0.mk (HR9.out.of (Below.heap_setCell W9 ⟨g6, 3, none⟩ (.int .i64 ((d3 : Nat) : Int)) b HLB.out))
          have HO10 := Aside0.mk (show Own w (W9.setCell ⟨g6, 3, none⟩ (.int .i64 ((d3 : Nat) : Int))) from (Below.heap_setCell W9 ⟨g6, 3, none⟩ (.int .i64 ((d3 : Nat) : Int)) w.heap.size (Nat.ne_of_lt HL6.out)).trans HO9.out)
          have HB10 := Aside0.mk (HB9.out.setCell (p := ⟨g6, 3, none⟩) (Nat.le_of_lt HL6.out) (.int .i64 ((d3 : Nat) : Int)))
          clear zc0 zc1 zc2 zc3 zc4 zf
          have zc0 := blk_cell HZ9.out 0
          have zc1 := blk_cell HZ9.out 1
          have zc2 := blk_cell HZ9.out 2
          have zc3 := blk_cell HZ9.out 3
          have zc4 := blk_cell HZ9.out 4
          have zf := blk_frozen HZ9.out 3
          simp only [List.getElem?_toArray, List.getElem?_cons_zero, List.getElem?_cons_succ] at zc0 zc1 zc2 zc3 zc4
          clear HZ9 HR9 HO9 HB9
          have EN := HEN.out
          go_wp2_with fail
          refine (EN _).mono ?_
          rintro e w20 ⟨rfl, hb20⟩
          clear zf zc0 zc1 zc2 zc3 zc4 EN HEN
          have HZ20 := Aside0.mk (blk_below HZ10.out hb20)
          have HR20 := Aside0.mk (HR10.out.below hb20)
          have HO20 := Aside0.mk (show Own w w20 from (hb20.block w.heap.size (blk_lt HO10.out)).trans HO10.out)
          have HB20 := Aside0.mk (below_step HB10.out hb20)
          clear HZ10 HR10 HO10 HB10 hb20
          by_cases hh : hit m wd = true
          · have q := EH.out.2 hh
            have DY := Aside0.mk (DY.out hh)
            rw [q]
            clear q EH HX hh
            have zc0 := blk_cell HZ20.out 0
            have zc1 := blk_cell HZ20.out 1
            have zc2 := blk_cell HZ20.out 2
            have zc3 := blk_cell HZ20.out 3
            have zc4 := blk_cell HZ20.out 4
            have hown := HO20.out
            unfold Own at hown
            have yc0 := blk_cell hown 0
            have yc1 := blk_cell hown 1
            have yc2 := blk_cell hown 2
            have yc3 := blk_cell hown 3
            have yc4 := blk_cell hown 4
            have yf0 := blk_frozen hown 0
            have yf1 := blk_frozen hown 1
            have yf2 := blk_frozen hown 2
            have yf3 := blk_frozen hown 3
            have yf4 := blk_frozen hown 4
            simp only [List.getElem?_toArray, List.getElem?_cons_zero, List.getElem?_cons_succ] at zc0 zc1 zc2 zc3 zc4 yc0 yc1 yc2 yc3 yc4
            have HOWN := Aside0.mk hown
            clear hown
            go_wp2_with fail
            have HP := Aside0.mk (put5_block HOWN.out (.int .i64 (m : Int)) (.int .i64 ((d1 : Nat) : Int)) (.int .i64 ((d2 : Nat) : Int)) (.int .i64 ((d3 : Nat) : Int)) (.int .i64 im))
            have HQ := Aside0.mk (put5_below (.int .i64 (m : Int)) (.int .i64 ((d1 : Nat) : Int)) (.int .i64 ((d2 : Nat) : Int)) (.int .i64 ((d3 : Nat) : Int)) (.int .i64 im) HB20.out (Nat.le_refl _))
            refine bodyPost_ret (results_ct rfl _ _ w.heap.size 42 #[.int .i64 (m : Int), .int .i64 ((d1 : Nat) : Int), .int .i64 ((d2 : Nat) : Int), .int .i64 ((d3 : Nat) : Int), .int .i64 im] (0, 0) _ rfl HP.out Tryz.underlying42 rfl (by kernel_rfl)) rfl ?_
            exact ⟨by rw [DY.out]; rfl, HQ.out⟩
          · have hf := Bool.eq_false_iff.2 hh
            have q : ¬ _ = wd := fun e => hh (EH.out.1 e)
            have hN := Aside0.mk (HX.out hf)
            clear HX EH hf hh DY
            generalize encW m _ _ _ im = ew at q ⊢
            have q1 : ((ew : Int) == (wd : Int)) = false := by rw [beq_eq_false_iff_ne]; omega
            clear q
            go_wp2_with fail
            go_roundw
            case rel => exact ⟨i + 1, by go_num, by omega, ⟨hN.out⟩, HR20, HO20, HB20⟩
            case measure => simp [intOf]; omega
      · have hb : (((wd : Int) % 128) != ((codeOf m : Nat) : Int)) = true := by rw [bne_iff_ne]; omega
        have hh : hit m wd = false := by unfold hit; rw [beq_eq_false_iff_ne.2 hc]; rfl
        have hN := HX.out hh
        clear hh HX
        go_wp2_with fail
        go_roundw
        case rel => exact ⟨i + 1, by go_num, by omega, ⟨hN⟩, HR2, HO2, HB2⟩
        case measure => simp [intOf]; omega
    · obtain rfl : i = 34 := by omega
      have DN := Aside0.mk (decV_no HN.out)
      have HOWN := HO.out
      unfold Own at HOWN
      have HOWN := Aside0.mk HOWN
      have yc0 := blk_cell HOWN.out 0
      have yc1 := blk_cell HOWN.out 1
      have yc2 := blk_cell HOWN.out 2
      have yc3 := blk_cell HOWN.out 3
      have yc4 := blk_cell HOWN.out 4
      have yf0 := blk_frozen HOWN.out 0
      have yf1 := blk_frozen HOWN.out 1
      have yf2 := blk_frozen HOWN.out 2
      have yf3 := blk_frozen HOWN.out 3
      have yf4 := blk_frozen HOWN.out 4
      simp only [List.getElem?_toArray, List.getElem?_cons_zero, List.getElem?_cons_succ] at yc0 yc1 yc2 yc3 yc4
      go_wp2_with fail
      have HP := Aside0.mk (put5_block HOWN.out (.int .i64 0) (.int .i64 0) (.int .i64 0) (.int .i64 0) (.int .i64 0))
      have HQ := Aside0.mk (put5_below (.int .i64 0) (.int .i64 0) (.int .i64 0) (.int .i64 0) (.int .i64 0) HB.out (Nat.le_refl _))
      refine bodyPost_ret (results_ct rfl _ _ w.heap.size 42 #[.int .i64 0, .int .i64 0, .int .i64 0, .int .i64 0, .int .i64 0] (0, 0) _ rfl HP.out Tryz.underlying42 rfl (by kernel_rfl)) rfl ?_
      exact ⟨by rw [DN.out]; rfl, HQ.out⟩
end Go.Proofs.YtcgkgaibomcheaaGreat.RDec
end

section
namespace Go.Proofs.YtcgkgaibomcheaaGreat.EM
open Go.RowKit Bits Dec Mac Mb Rd Do RDec PRvemuRuns YtcgkgaibomcheaaGreatW.PrintWords YtcgkgaibomcheaaGreatW.PrintLast YtcgkgaibomcheaaGreatW.PrintMore
def vals (m : Mac) (c d f t q : Value) : Nat → Value := fun i =>
  if i = 0 then c else if i = 1 then d else if i = 2 then f else if i < 35 then .int .u64 (U (m.x (i - 3))) else if i = 35 then .int .u64 (U m.pc) else if i = 36 then .int .i64 m.fuel else
  if i = 37 then .int .i64 m.steps else if i = 38 then .bool m.done else if i = 39 then .int .i64 m.err else if i = 40 then t else q
theorem vals_x (m : Mac) (c d f t q : Value) (r : Nat) (hr : r < 32) : vals m c d f t q (3 + r) = .int .u64 (U (m.x r)) := by
  unfold vals
  rw [if_neg (by omega), if_neg (by omega), if_neg (by omega), if_pos (by omega), show 3 + r - 3 = r by omega]
theorem vals_setpc (m : Mac) (c d f t q : Value) (pc : BitVec 64) : atPc (vals m c d f t q) pc = vals (setpc m pc) c d f t q := by
  funext i
  unfold atPc vals setpc
  by_cases h : i = 35
  · subst h; rfl
  · rw [if_neg h]
    simp only [if_neg h]
theorem vals_tr (m : Mac) (c d f t q t' : Value) (e : S54) : atTr (vals m c d f t q) t' = vals (note m e) c d f t' q := by
  funext i
  unfold atTr vals note
  by_cases h : i = 40
  · subst h; rfl
  · rw [if_neg h]
    simp only [if_neg h]
theorem vals_setx (m : Mac) (c d f t q : Value) (rd : Nat) (r : BitVec 64) (hrd : rd < 32) (h0 : rd ≠ 0) : (fun i => if i = 3 + rd then Value.int .u64 (U r) else vals m c d f t q i) = vals (setx m rd r) c d f t q := by
  funext i
  unfold setx
  rw [if_neg h0]
  by_cases h : i = 3 + rd
  · subst h
    rw [if_pos rfl, vals_x _ _ _ _ _ _ _ hrd]
    simp
  · rw [if_neg h]
    unfold vals
    by_cases h35 : i < 35
    · by_cases h2 : i ≤ 2
      · have : i = 0 ∨ i = 1 ∨ i = 2 := by omega
        rcases this with rfl | rfl | rfl <;> rfl
      · have h3 : ¬ i - 3 = rd := by omega
        simp only [h3, if_false]
    · have : ¬ i = 0 ∧ ¬ i = 1 ∧ ¬ i = 2 := by omega
      simp only [this.1, this.2.1, this.2.2, h35, if_false]
def own (g : Nat) (f t : Value) (k : Nat) : Prop := k = g ∨ some k = f.ownBlock ∨ some k = t.ownBlock
def CodeAt (W : World) (S : Nat → Prop) (c : Value) (l : List Int) : Prop := ∃ A cc, c = .slice A l.length cc ∧ l.length ≤ cc ∧ Kd.C (Kd.int .u8) W A l.length l ∧ ∀ ad, A = some ad → 0 < l.length → ¬ S ad.block
def SlAt (W : World) (f : Value) (l : List Int) : Prop := ∃ A c, f = .slice A l.length c ∧ l.length ≤ c ∧ (l = [] ∨ ∃ b, A = some ⟨b, 0, none⟩ ∧ Row b l W)
theorem CodeAt.kept {W W' : World} {S T : Nat → Prop} {c : Value} {l : List Int} (h : CodeAt W S c l) (hk : Kept W W' T) (hs : ∀ k, k < W.heap.size → T k → S k) : CodeAt W' S c l := by
  obtain ⟨A, cc, h1, h2, h3, h4⟩ := h
  refine ⟨A, cc, h1, h2, ?_, h4⟩
  refine Kd.C_foot_neS (d := Kd.int .u8) (S := T) (fun hx => hx) h3 (fun ad ha hn hT => ?_) W' hk
  subst ha
  exact h4 ad rfl hn (hs _ (Kd.C_lt h3 hn (by decide)) hT)
theorem CodeAt.imp {W : World} {S T : Nat → Prop} {c : Value} {l : List Int} (h : CodeAt W S c l) (hs : ∀ k, k < W.heap.size → T k → S k) : CodeAt W T c l := by
  obtain ⟨A, cc, h1, h2, h3, h4⟩ := h
  refine ⟨A, cc, h1, h2, h3, fun ad ha hn hT => ?_⟩
  subst ha
  exact h4 ad rfl hn (hs _ (Kd.C_lt h3 hn (by decide)) hT)
theorem SlAt.of {W W' : World} {f : Value} {l : List Int} (h : SlAt W f l) (hk : ∀ k, some k = f.ownBlock → k < W.heap.size → W'.heap[k]? = W.heap[k]?) : SlAt W' f l := by
  obtain ⟨A, c, rfl, h2, h3⟩ := h
  refine ⟨A, c, rfl, h2, ?_⟩
  rcases h3 with h3 | ⟨b, rfl, hb⟩
  · exact .inl h3
  · exact .inr ⟨b, rfl, hb.of (hk b (by simp [Value.ownBlock]) hb.lt)⟩
def TrAt (W : World) (t : Value) (tr : List S54) : Prop := Kd.R k54 54 W 0 (fun k => some k = t.ownBlock) t tr
theorem TrAt.mk_ {W : World} {b : Nat} {ok : Nat → Prop} {t : Value} {tr : List S54} (h : Kd.R k54 54 W b ok t tr) : TrAt W t tr := by
  have h := Kd.R_lower h (Nat.zero_le b)
  refine ⟨fun k hk => hk.symm, h.2.imp_ fun p c hp => ?_⟩
  rw [k54_open (k54.K_of_M hp)]
  exact k54_mkM _ _ _ p
theorem TrAt.lt {W : World} {t : Value} {tr : List S54} (h : TrAt W t tr) (k : Nat) (hk : some k = t.ownBlock) : k < W.heap.size := Kd.R_lt h k hk.symm
theorem TrAt.typed {W : World} {t : Value} {tr : List S54} (h : TrAt W t tr) (k : Nat) (hk : some k = t.ownBlock) : ∃ cells, W.heap[k]? = some (.cells cells 54 (0, 0)) := Kd.R_typed h k hk.symm
theorem TrAt.kept {W W' : World} {S : Nat → Prop} {t : Value} {tr : List S54} (h : TrAt W t tr) (hk : Kept W W' S) (hs : ∀ k, some k = t.ownBlock → ¬ S k) : TrAt W' t tr := Kd.R_kept h hk hs
theorem mbt {T n : Nat} {W : World} {g : Nat} {v : Nat → Value} (h : MB T n W g v) : ∃ cs, W.heap[g]? = some (.cells cs T (0, 0)) := by
  obtain ⟨cs, h1, _⟩ := h
  exact ⟨cs, h1⟩
theorem row_typed {W : World} {b : Nat} {l : List Int} (h : Row b l W) : ∃ cs, W.heap[b]? = some (.cells cs 5 (0, 0)) := by
  obtain ⟨cs, h1, _⟩ := h
  exact ⟨cs, h1⟩
theorem ty_ne {W : World} {a b T U : Nat} (ha : ∃ cs, W.heap[a]? = some (.cells cs T (0, 0))) (hb : ∃ cs, W.heap[b]? = some (.cells cs U (0, 0))) (hT : T ≠ U) : a ≠ b := by
  rintro rfl
  obtain ⟨cs, h1⟩ := ha
  obtain ⟨ds, h2⟩ := hb
  rw [h1] at h2
  injection h2 with h2
  injection h2 with _ h2 _
  exact hT h2
theorem map_ne {W : World} {a b T : Nat} {es : Array MapEntry} {ck : Nat} (ha : ∃ cs, W.heap[a]? = some (.cells cs T (0, 0))) (hb : W.heap[b]? = some (.map es ck)) : a ≠ b := by
  rintro rfl
  obtain ⟨cs, h1⟩ := ha
  rw [h1] at hb
  cases hb
structure ME (W : World) (g : Nat) (m : Mac) (c d f t : Value) (gm : Nat) : Prop where
  mb : MB 74 42 W g (vals m c d f t (.map (some gm)))
  tr : TrAt W t m.tr
  data : ∃ gd cd, d = .slice (some ⟨gd, 0, none⟩) 64 cd ∧ 64 ≤ cd ∧ Row gd m.data W ∧ some gd ≠ f.ownBlock
  frame : SlAt W f m.frame
  fty : ∀ k, some k = f.ownBlock → ∃ cs, W.heap[k]? = some (.cells cs 5 (0, 0))
  map : W.heap[gm]? = some (.map (Tab.tab 34) 34)
  d64 : m.data.length = 64
  fl : m.frame.length ≤ 1048576
  bd : isBytes m.data
  bf : isBytes m.frame
section
variable {W W' : World} {g gm : Nat} {m : Mac} {c d f t : Value}
theorem ME.g_f (h : ME W g m c d f t gm) : some g ≠ f.ownBlock := fun e => ty_ne (mbt h.mb) (h.fty g e) (by decide) rfl
theorem ME.g_t (h : ME W g m c d f t gm) : some g ≠ t.ownBlock := fun e => ty_ne (mbt h.mb) (h.tr.typed g e) (by decide) rfl
theorem ME.gm_own (h : ME W g m c d f t gm) : ¬ own g f t gm := by
  rintro (e | e | e)
  · exact map_ne (mbt h.mb) (e ▸ h.map) rfl
  · exact map_ne (h.fty gm e) h.map rfl
  · exact map_ne (h.tr.typed gm e) h.map rfl
theorem ME.gm_lt (h : ME W g m c d f t gm) : gm < W.heap.size := blk_lt h.map
theorem own_lt (h : ME W g m c d f t gm) (k : Nat) (hk : own g f t k) : k < W.heap.size := by
  rcases hk with e | e | e
  · rw [e]; exact h.mb.lt
  · obtain ⟨cs, h1⟩ := h.fty k e
    exact blk_lt h1
  · exact h.tr.lt k e
theorem ME.kept {T : Nat → Prop} (h : ME W g m c d f t gm) (hk : Kept W W' T) (hT : ∀ k, k < W.heap.size → T k → ¬ own g f t k ∧ some k ≠ d.ownBlock ∧ k ≠ gm) : ME W' g m c d f t gm where
  mb := h.mb.of (hk.2 g h.mb.lt (fun e => (hT g h.mb.lt e).1 (.inl rfl)))
  tr := h.tr.kept hk (fun k e hh => (hT k (h.tr.lt k e) hh).1 (.inr (.inr e)))
  data := by
    obtain ⟨gd, cd, h1, h2, h3, h4⟩ := h.data
    exact ⟨gd, cd, h1, h2, h3.of (hk.2 gd h3.lt (fun e => (hT gd h3.lt e).2.1 (by rw [h1]; simp [Value.ownBlock]))), h4⟩
  frame := h.frame.of fun k e hl => hk.2 k hl (fun hh => (hT k hl hh).1 (.inr (.inl e)))
  fty := fun k e => by
    obtain ⟨cs, h1⟩ := h.fty k e
    exact ⟨cs, (hk.2 k (blk_lt h1) (fun hh => (hT k (blk_lt h1) hh).1 (.inr (.inl e)))).trans h1⟩
  map := (hk.2 gm h.gm_lt (fun e => (hT gm h.gm_lt e).2.2 rfl)).trans h.map
  d64 := h.d64
  fl := h.fl
  bd := h.bd
  bf := h.bf
theorem ME.below (h : ME W g m c d f t gm) (hb : Below W.heap.size W W') : ME W' g m c d f t gm := h.kept (Kept.of_below hb (fun _ => False)) (fun _ _ e => e.elim)
theorem ME.put (h : ME W g m c d f t gm) (j : Nat) (u : Value) (m' : Mac) (hv : vals m' c d f t (.map (some gm)) j = u) (ho : ∀ i, i < 42 → i ≠ j → vals m' c d f t (.map (some gm)) i = vals m c d f t (.map (some gm)) i) (e1 : m'.tr = m.tr) (e2 : m'.data = m.data) (e3 : m'.frame = m.frame) : ME (W.setCell ⟨g, j, none⟩ u) g m' c d f t gm where
  mb := h.mb.put j u _ hv ho
  tr := by
    rw [e1]
    obtain ⟨cs, hcs⟩ := (mbt h.mb)
    exact Kd.R_set h.tr hcs (by decide) j u
  data := by
    obtain ⟨gd, cd, h1, h2, h3, h4⟩ := h.data
    rw [e2]
    exact ⟨gd, cd, h1, h2, h3.of (Below.heap_setCell _ _ _ _ (fun e => ty_ne (mbt h.mb) (row_typed h3) (by decide) e.symm)), h4⟩
  frame := by
    rw [e3]
    exact h.frame.of fun k e hl => Below.heap_setCell _ _ _ _ (fun e2 => h.g_f (by rw [← e]; exact congrArg some e2.symm))
  fty := fun k e => by
    obtain ⟨cs, h1⟩ := h.fty k e
    exact ⟨cs, (Below.heap_setCell _ _ _ _ (fun e2 => h.g_f (by rw [← e]; exact congrArg some e2.symm))).trans h1⟩
  map := (Below.heap_setCell _ _ _ _ (fun e2 => h.gm_own (.inl e2))).trans h.map
  d64 := by rw [e2]; exact h.d64
  fl := by rw [e3]; exact h.fl
  bd := by rw [e2]; exact h.bd
  bf := by rw [e3]; exact h.bf
end
end Go.Proofs.YtcgkgaibomcheaaGreat.EM
end

section
namespace Go.Proofs.YtcgkgaibomcheaaGreat.Mem
open Go.RowKit Bits Alu Mb Rd YtcgkgaibomcheaaGreatW.PrintWords YtcgkgaibomcheaaGreatW.PrintLast YtcgkgaibomcheaaGreatW.PrintMore
theorem qT : ∀ (w : World) (a : Option Addr) (n c n' c' : Nat), (binOp .eql 22 (.slice a n c) (.slice none n' c')).run Tryz.prog w = .ok (.bool a.isNone) w := fun w a n c n' c' => Lib.run_eql_slice_nil w _ _ a n c n' c' Tryz.underlying22
set_option maxRecDepth 20000 in
theorem read_no (p : Value) (a : Int) (n : Int) (w : World) (hreg : Calls Tryz.prog 110 #[p, .int .u64 a, .int .i64 n, .bool false] w fun e w' => e = .returned (.slice none 0 0) ∧ w' = w) :
    Calls Tryz.prog 96 #[p, .int .u64 a, .int .i64 n] w fun e w' => e = .panicked [{ v := .iface 95 (.agg #[.int .i64 6]), recovered := false }] ∧ w' = w := by
  have q := qT
  go_enter Tryz.func96, Tryz.ntmps96
  go_wp2_with fail
  refine hreg.mono ?_
  rintro e w1 ⟨rfl, rfl⟩
  clear hreg
  go_wp2
  exact ⟨rfl, rfl, rfl⟩
set_option maxRecDepth 20000 in
theorem write_no (p : Value) (a : Int) (n x : Int) (w : World) (hreg : Calls Tryz.prog 110 #[p, .int .u64 a, .int .i64 n, .bool true] w fun e w' => e = .returned (.slice none 0 0) ∧ w' = w) :
    Calls Tryz.prog 97 #[p, .int .u64 a, .int .i64 n, .int .u64 x] w fun e w' => e = .panicked [{ v := .iface 95 (.agg #[.int .i64 7]), recovered := false }] ∧ w' = w := by
  have q := qT
  go_enter Tryz.func97, Tryz.ntmps97
  go_wp2_with fail
  refine hreg.mono ?_
  rintro e w1 ⟨rfl, rfl⟩
  clear hreg
  go_wp2
  exact ⟨rfl, rfl, rfl⟩
set_option maxRecDepth 20000 in
theorem op_ld (p : Value) (i0 i1 i2 i3 i4 : Int) (a b k x : BitVec 64) (w : World) (X : World → Prop) (hX : ∀ W W', X W → Below W.heap.size W W' → X W')
    (h : Calls Tryz.prog 96 #[p, .int .u64 (U (a + k)), .int .i64 8] (w.alloc (.cells #[.int .i64 i0, .int .i64 i1, .int .i64 i2, .int .i64 i3, .int .i64 i4] 42)) fun e w' => e = .returned (.int .u64 (U x)) ∧ X w') :
    Calls Tryz.prog 59 #[p, .agg #[.int .i64 i0, .int .i64 i1, .int .i64 i2, .int .i64 i3, .int .i64 i4], .int .u64 (U a), .int .u64 (U b), .int .u64 (U k)] w fun e w' => e = .returned (.int .u64 (U (x))) ∧ X w' := by
  have ha := addU a k
  go_enter Tryz.func59, Tryz.ntmps59
  go_wp2_with fail
  refine h.mono ?_
  rintro e w1 ⟨rfl, hx⟩
  have HX := Aside0.mk hx
  clear hx h
  clear hX
  go_wp2
  go_ret
  exact ⟨rfl, HX.out⟩
set_option maxRecDepth 20000 in
theorem op_ld_no (p : Value) (i0 i1 i2 i3 i4 : Int) (a b k : BitVec 64) (w : World) (er : List PanicEntry)
    (h : Calls Tryz.prog 96 #[p, .int .u64 (U (a + k)), .int .i64 8] (w.alloc (.cells #[.int .i64 i0, .int .i64 i1, .int .i64 i2, .int .i64 i3, .int .i64 i4] 42)) fun e w' => e = .panicked er ∧ w' = w.alloc (.cells #[.int .i64 i0, .int .i64 i1, .int .i64 i2, .int .i64 i3, .int .i64 i4] 42)) :
    Calls Tryz.prog 59 #[p, .agg #[.int .i64 i0, .int .i64 i1, .int .i64 i2, .int .i64 i3, .int .i64 i4], .int .u64 (U a), .int .u64 (U b), .int .u64 (U k)] w fun e w' => e = .panicked er ∧ w' = w.alloc (.cells #[.int .i64 i0, .int .i64 i1, .int .i64 i2, .int .i64 i3, .int .i64 i4] 42) := by
  have ha := addU a k
  go_enter Tryz.func59, Tryz.ntmps59
  go_wp2_with fail
  refine h.mono ?_
  rintro e w1 ⟨rfl, rfl⟩
  exact ⟨rfl, rfl, rfl⟩
set_option maxRecDepth 20000 in
theorem op_lw (p : Value) (i0 i1 i2 i3 i4 : Int) (a b k x : BitVec 64) (w : World) (X : World → Prop) (hX : ∀ W W', X W → Below W.heap.size W W' → X W')
    (h : Calls Tryz.prog 96 #[p, .int .u64 (U (a + k)), .int .i64 4] (w.alloc (.cells #[.int .i64 i0, .int .i64 i1, .int .i64 i2, .int .i64 i3, .int .i64 i4] 42)) fun e w' => e = .returned (.int .u64 (U x)) ∧ X w') :
    Calls Tryz.prog 60 #[p, .agg #[.int .i64 i0, .int .i64 i1, .int .i64 i2, .int .i64 i3, .int .i64 i4], .int .u64 (U a), .int .u64 (U b), .int .u64 (U k)] w fun e w' => e = .returned (.int .u64 (U (s32 x))) ∧ X w' := by
  have ha := addU a k
  go_enter Tryz.func60, Tryz.ntmps60
  go_wp2_with fail
  refine h.mono ?_
  rintro e w1 ⟨rfl, hx⟩
  have HX := Aside0.mk hx
  clear hx h
  go_wp2_with fail
  refine (w_calls x _).mono ?_
  rintro e w2 ⟨rfl, hb⟩
  have HX2 := Aside0.mk (hX _ _ HX.out hb)
  clear HX hb hX
  go_wp2
  go_ret
  exact ⟨rfl, HX2.out⟩
set_option maxRecDepth 20000 in
theorem op_lw_no (p : Value) (i0 i1 i2 i3 i4 : Int) (a b k : BitVec 64) (w : World) (er : List PanicEntry)
    (h : Calls Tryz.prog 96 #[p, .int .u64 (U (a + k)), .int .i64 4] (w.alloc (.cells #[.int .i64 i0, .int .i64 i1, .int .i64 i2, .int .i64 i3, .int .i64 i4] 42)) fun e w' => e = .panicked er ∧ w' = w.alloc (.cells #[.int .i64 i0, .int .i64 i1, .int .i64 i2, .int .i64 i3, .int .i64 i4] 42)) :
    Calls Tryz.prog 60 #[p, .agg #[.int .i64 i0, .int .i64 i1, .int .i64 i2, .int .i64 i3, .int .i64 i4], .int .u64 (U a), .int .u64 (U b), .int .u64 (U k)] w fun e w' => e = .panicked er ∧ w' = w.alloc (.cells #[.int .i64 i0, .int .i64 i1, .int .i64 i2, .int .i64 i3, .int .i64 i4] 42) := by
  have ha := addU a k
  go_enter Tryz.func60, Tryz.ntmps60
  go_wp2_with fail
  refine h.mono ?_
  rintro e w1 ⟨rfl, rfl⟩
  exact ⟨rfl, rfl, rfl⟩
set_option maxRecDepth 20000 in
theorem op_lwu (p : Value) (i0 i1 i2 i3 i4 : Int) (a b k x : BitVec 64) (w : World) (X : World → Prop) (hX : ∀ W W', X W → Below W.heap.size W W' → X W')
    (h : Calls Tryz.prog 96 #[p, .int .u64 (U (a + k)), .int .i64 4] (w.alloc (.cells #[.int .i64 i0, .int .i64 i1, .int .i64 i2, .int .i64 i3, .int .i64 i4] 42)) fun e w' => e = .returned (.int .u64 (U x)) ∧ X w') :
    Calls Tryz.prog 61 #[p, .agg #[.int .i64 i0, .int .i64 i1, .int .i64 i2, .int .i64 i3, .int .i64 i4], .int .u64 (U a), .int .u64 (U b), .int .u64 (U k)] w fun e w' => e = .returned (.int .u64 (U (x))) ∧ X w' := by
  have ha := addU a k
  go_enter Tryz.func61, Tryz.ntmps61
  go_wp2_with fail
  refine h.mono ?_
  rintro e w1 ⟨rfl, hx⟩
  have HX := Aside0.mk hx
  clear hx h
  clear hX
  go_wp2
  go_ret
  exact ⟨rfl, HX.out⟩
set_option maxRecDepth 20000 in
theorem op_lwu_no (p : Value) (i0 i1 i2 i3 i4 : Int) (a b k : BitVec 64) (w : World) (er : List PanicEntry)
    (h : Calls Tryz.prog 96 #[p, .int .u64 (U (a + k)), .int .i64 4] (w.alloc (.cells #[.int .i64 i0, .int .i64 i1, .int .i64 i2, .int .i64 i3, .int .i64 i4] 42)) fun e w' => e = .panicked er ∧ w' = w.alloc (.cells #[.int .i64 i0, .int .i64 i1, .int .i64 i2, .int .i64 i3, .int .i64 i4] 42)) :
    Calls Tryz.prog 61 #[p, .agg #[.int .i64 i0, .int .i64 i1, .int .i64 i2, .int .i64 i3, .int .i64 i4], .int .u64 (U a), .int .u64 (U b), .int .u64 (U k)] w fun e w' => e = .panicked er ∧ w' = w.alloc (.cells #[.int .i64 i0, .int .i64 i1, .int .i64 i2, .int .i64 i3, .int .i64 i4] 42) := by
  have ha := addU a k
  go_enter Tryz.func61, Tryz.ntmps61
  go_wp2_with fail
  refine h.mono ?_
  rintro e w1 ⟨rfl, rfl⟩
  exact ⟨rfl, rfl, rfl⟩
set_option maxRecDepth 20000 in
theorem op_sd (p : Value) (i0 i1 i2 i3 i4 : Int) (a b k : BitVec 64) (w : World) (X : World → Prop)
    (h : Calls Tryz.prog 97 #[p, .int .u64 (U (a + k)), .int .i64 8, .int .u64 (U b)] (w.alloc (.cells #[.int .i64 i0, .int .i64 i1, .int .i64 i2, .int .i64 i3, .int .i64 i4] 42)) fun e w' => e = .returned (.tuple #[]) ∧ X w') :
    Calls Tryz.prog 62 #[p, .agg #[.int .i64 i0, .int .i64 i1, .int .i64 i2, .int .i64 i3, .int .i64 i4], .int .u64 (U a), .int .u64 (U b), .int .u64 (U k)] w fun e w' => e = .returned (.int .u64 (U 0#64)) ∧ X w' := by
  have ha := addU a k
  go_enter Tryz.func62, Tryz.ntmps62
  go_wp2_with fail
  refine h.mono ?_
  rintro e w1 ⟨rfl, hx⟩
  have HX := Aside0.mk hx
  clear hx h
  go_wp2
  go_ret
  exact ⟨rfl, HX.out⟩
set_option maxRecDepth 20000 in
theorem op_sd_no (p : Value) (i0 i1 i2 i3 i4 : Int) (a b k : BitVec 64) (w : World) (er : List PanicEntry)
    (h : Calls Tryz.prog 97 #[p, .int .u64 (U (a + k)), .int .i64 8, .int .u64 (U b)] (w.alloc (.cells #[.int .i64 i0, .int .i64 i1, .int .i64 i2, .int .i64 i3, .int .i64 i4] 42)) fun e w' => e = .panicked er ∧ w' = w.alloc (.cells #[.int .i64 i0, .int .i64 i1, .int .i64 i2, .int .i64 i3, .int .i64 i4] 42)) :
    Calls Tryz.prog 62 #[p, .agg #[.int .i64 i0, .int .i64 i1, .int .i64 i2, .int .i64 i3, .int .i64 i4], .int .u64 (U a), .int .u64 (U b), .int .u64 (U k)] w fun e w' => e = .panicked er ∧ w' = w.alloc (.cells #[.int .i64 i0, .int .i64 i1, .int .i64 i2, .int .i64 i3, .int .i64 i4] 42) := by
  have ha := addU a k
  go_enter Tryz.func62, Tryz.ntmps62
  go_wp2_with fail
  refine h.mono ?_
  rintro e w1 ⟨rfl, rfl⟩
  exact ⟨rfl, rfl, rfl⟩
set_option maxRecDepth 20000 in
theorem op_sw (p : Value) (i0 i1 i2 i3 i4 : Int) (a b k : BitVec 64) (w : World) (X : World → Prop)
    (h : Calls Tryz.prog 97 #[p, .int .u64 (U (a + k)), .int .i64 4, .int .u64 (U b)] (w.alloc (.cells #[.int .i64 i0, .int .i64 i1, .int .i64 i2, .int .i64 i3, .int .i64 i4] 42)) fun e w' => e = .returned (.tuple #[]) ∧ X w') :
    Calls Tryz.prog 63 #[p, .agg #[.int .i64 i0, .int .i64 i1, .int .i64 i2, .int .i64 i3, .int .i64 i4], .int .u64 (U a), .int .u64 (U b), .int .u64 (U k)] w fun e w' => e = .returned (.int .u64 (U 0#64)) ∧ X w' := by
  have ha := addU a k
  go_enter Tryz.func63, Tryz.ntmps63
  go_wp2_with fail
  refine h.mono ?_
  rintro e w1 ⟨rfl, hx⟩
  have HX := Aside0.mk hx
  clear hx h
  go_wp2
  go_ret
  exact ⟨rfl, HX.out⟩
set_option maxRecDepth 20000 in
theorem op_sw_no (p : Value) (i0 i1 i2 i3 i4 : Int) (a b k : BitVec 64) (w : World) (er : List PanicEntry)
    (h : Calls Tryz.prog 97 #[p, .int .u64 (U (a + k)), .int .i64 4, .int .u64 (U b)] (w.alloc (.cells #[.int .i64 i0, .int .i64 i1, .int .i64 i2, .int .i64 i3, .int .i64 i4] 42)) fun e w' => e = .panicked er ∧ w' = w.alloc (.cells #[.int .i64 i0, .int .i64 i1, .int .i64 i2, .int .i64 i3, .int .i64 i4] 42)) :
    Calls Tryz.prog 63 #[p, .agg #[.int .i64 i0, .int .i64 i1, .int .i64 i2, .int .i64 i3, .int .i64 i4], .int .u64 (U a), .int .u64 (U b), .int .u64 (U k)] w fun e w' => e = .panicked er ∧ w' = w.alloc (.cells #[.int .i64 i0, .int .i64 i1, .int .i64 i2, .int .i64 i3, .int .i64 i4] 42) := by
  have ha := addU a k
  go_enter Tryz.func63, Tryz.ntmps63
  go_wp2_with fail
  refine h.mono ?_
  rintro e w1 ⟨rfl, rfl⟩
  exact ⟨rfl, rfl, rfl⟩
end Go.Proofs.YtcgkgaibomcheaaGreat.Mem
end
