/- Joined texts: Lent, PRvemuRunsx1, SameH. Conditions: those of each theorem. -/
import Derived.Test.YtcgkgaibomcheaaGreatZC01
import Derived.Test.YtcgkgaibomcheaaGreatZT20
import Derived.Test.YtcgkgaibomcheaaGreatZT18
import Derived.Test.YtcgkgaibomcheaaGreatZT19
import Derived.Test.YtcgkgaibomcheaaGreatZC03
import Derived.Test.YtcgkgaibomcheaaGreatZC09
import Derived.Test.YtcgkgaibomcheaaGreatZC13
set_option linter.unusedVariables false
set_option linter.unusedSimpArgs false
section
namespace Go.Proofs.YtcgkgaibomcheaaGreat.Lent
open Go.RowKit Bits Rd RDec Mb EM EndsL PRvemuRuns YtcgkgaibomcheaaGreatW.PrintWords YtcgkgaibomcheaaGreatW.PrintLast YtcgkgaibomcheaaGreatW.PrintMore
theorem lit0 (k : IntKind) (e : Nat) (W : World) (base : Nat) (hb : base ≤ W.heap.size) : Kd.R (Kd.int k) e (W.alloc (.cells #[] e)) base (fun _ => True) (.slice (some ⟨W.heap.size, 0, none⟩) 0 0) [] := by
 refine ⟨fun _ _ => trivial, [], ?_, Reps.none _ _⟩
 have h2 := World.ownsRow_lit (base := base) (e := e) (size := (Kd.int k).sz) W #[] 0 hb (by decide) (by simp)
 simpa using h2
theorem blk_alloc_ {w : World} {g : Nat} {o : Obj} (h : w.heap[g]? = some o) (ob : Obj) : (w.alloc ob).heap[g]? = some o := (below_alloc (Below.refl w.heap.size w) ob).block g (blk_lt h) ▸ h
theorem one_C {k : IntKind} {W : World} {b e : Nat} {x : Int} (h : W.heap[b]? = some (.cells #[.int k x] e (0, 0))) : (Kd.int k).C W (some ⟨b, 0, none⟩) 1 [x] := by
 refine ⟨rfl, by decide, fun _ => ⟨_, rfl, fun j p hj => ?_⟩⟩
 obtain rfl : j = 0 := by
  have := (List.getElem?_eq_some_iff.1 hj).1
  rw [List.length_singleton] at this
  omega
 injection hj with hj
 subst hj
 refine ⟨[.int k x], rfl, rfl, fun i u hi => ?_⟩
 obtain rfl : i = 0 := by
  have := (List.getElem?_eq_some_iff.1 hi).1
  rw [List.length_singleton] at this
  omega
 injection hi with hi
 subst hi
 exact (blk_cell h 0).trans rfl
set_option maxRecDepth 20000 in
set_option maxHeartbeats 2000000 in
theorem lent (cA dA rA sA : Option Addr) (cc dc rc sc : Nat) (lc ld ls lr : List Int) (fr fu : Int) (w : World) (h : EnvAt w cA dA rA sA cc dc rc sc lc ld ls lr)
 (hlc : lc.length + 1 ≤ 140737488355328) (hld : ld.length + 1 ≤ 140737488355328) (hls : ls.length + 1 ≤ 140737488355328) (hlr : (lr.length + 1) * 8 ≤ 140737488355328) :
 Calls Tryz.prog 12 #[.agg #[.slice cA lc.length cc, .slice dA ld.length dc, .slice rA lr.length rc, .slice sA ls.length sc, .int .i64 fr, .int .i64 fu]] w fun e w' => ∃ (Ac Ad Ar As : Option Addr) (kc kd kr ks b1 : Nat), e = .returned (.agg #[.slice Ac lc.length kc, .slice Ad ld.length kd, .slice Ar lr.length kr, .slice As ls.length ks, .int .i64 fr, .int .i64 fu]) ∧ Kd.R (Kd.int .u8) 5 w' w.heap.size (fun _ => True) (.slice Ac (lc.length + 1) kc) (lc ++ [77]) ∧ Kd.R (Kd.int .u8) 5 w' b1 (fun _ => True) (.slice Ad (ld.length + 1) kd) (ld ++ [77]) ∧ (∀ k, (Value.slice Ac (lc.length + 1) kc).ownBlock = some k → k < b1) ∧ w.heap.size ≤ b1 ∧ Kd.R (Kd.int .u64) 52 w' w.heap.size (fun _ => True) (.slice Ar (lr.length + 1) kr) (lr ++ [77]) ∧ Kd.R (Kd.int .u8) 5 w' w.heap.size (fun _ => True) (.slice As (ls.length + 1) ks) (ls ++ [77]) ∧ Below w.heap.size w w' := by
 have hu25 := Tryz.underlying25
 have Hlc := Aside0.mk h.hc
 have Hld := Aside0.mk h.hd
 have Hlr := Aside0.mk h.hr
 have Hls := Aside0.mk h.hs
 have HLlc := Aside0.mk hlc
 have HLld := Aside0.mk hld
 have HLlr := Aside0.mk hlr
 have HLls := Aside0.mk hls
 clear h hlc hld hlr hls
 have HB0 := Aside0.mk (below_alloc (below_alloc (Below.refl w.heap.size w) (.cells #[.slice cA lc.length cc, .slice dA ld.length dc, .slice rA lr.length rc, .slice sA ls.length sc, .int .i64 fr, .int .i64 fu] 25)) (.cells #[.slice none 0 0, .slice none 0 0, .slice none 0 0, .slice none 0 0, .int .i64 0, .int .i64 0] 25))
 have HX0 := Aside0.mk (blk_below (blk_new w (.cells #[.slice cA lc.length cc, .slice dA ld.length dc, .slice rA lr.length rc, .slice sA ls.length sc, .int .i64 fr, .int .i64 fu] 25)) (below_alloc (Below.refl _ _) (.cells #[.slice none 0 0, .slice none 0 0, .slice none 0 0, .slice none 0 0, .int .i64 0, .int .i64 0] 25)))
 have HZ0 := Aside0.mk (blk_new (w.alloc (.cells #[.slice cA lc.length cc, .slice dA ld.length dc, .slice rA lr.length rc, .slice sA ls.length sc, .int .i64 fr, .int .i64 fu] 25)) (.cells #[.slice none 0 0, .slice none 0 0, .slice none 0 0, .slice none 0 0, .int .i64 0, .int .i64 0] 25))
 have HG := Aside0.mk (Nat.le_refl w.heap.size)
 simp only [World.size_alloc] at HZ0
 have x0 := blk_cell HX0.out 0
 simp only [List.getElem?_toArray, List.getElem?_cons_zero, List.getElem?_cons_succ] at x0
 go_enter Tryz.func12, Tryz.ntmps12
 go_wp2_with fail
 generalize ((w.alloc (.cells #[.slice cA lc.length cc, .slice dA ld.length dc, .slice rA lr.length rc, .slice sA ls.length sc, .int .i64 fr, .int .i64 fu] 25)).alloc (.cells #[.slice none 0 0, .slice none 0 0, .slice none 0 0, .slice none 0 0, .int .i64 0, .int .i64 0] 25)) = W0 at *
 have L := below_drew1 (Below.refl W0.heap.size W0)
 refine start_ (n := 12) (S := fun w' => w'.cell? ⟨w.heap.size, 0, none⟩ = some (.slice cA lc.length cc)) (ds := [11]) #[vF,vF,vF,vF,vF,vF,vF,vF,vF,vF,vF,vF] (by kernel_rfl) rfl rfl (kB L x0) (fun hHeld => ?_)
 refine pure_ (i := 1) (N := some 4) (v := ?_) (a' := ?_) #[vF,vT,vF,vF,vF,vF,vF,vF,vF,vF,vF,vF] rfl rfl (by kernel_rfl) (fun _ _ _ h => h) (Or.inl ⟨by rfl, ?_⟩) ?_ ?_
 rotate_left
 · intro w'; go_simp; with_reducible rfl
 rotate_left
 · simp only [Act.put, List.setIfInBounds_toArray, List.set, i64_w, i32_w]
   rfl
 refine pure_ (i := 6) (N := some 9) (v := ?_) (a' := ?_) #[vF,vT,vF,vF,vF,vF,vT,vF,vF,vF,vF,vF] rfl rfl (by kernel_rfl) (fun _ _ _ h => h) (Or.inl ⟨by rfl, ?_⟩) ?_ ?_
 rotate_left
 · intro w'; go_simp; with_reducible rfl
 rotate_left
 · simp only [Act.put, List.setIfInBounds_toArray, List.set, i64_w, i32_w]
   rfl
 refine take_ (i := 2) (N := some 5) (v := ?_) (a' := ?_) #[vF,vT,vT,vF,vF,vF,vT,vF,vF,vF,vF,vF] rfl rfl (by kernel_rfl) (fun _ _ _ h => h) (Or.inl ⟨by rfl, ?_⟩) hHeld ?_ ?_
 rotate_left
 · intro w' s0
   go_simp
   with_reducible rfl
 rotate_left
 · simp only [Act.put, List.setIfInBounds_toArray, List.set, i64_w, i32_w]
   rfl
 refine take_ (i := 7) (N := some 10) (v := ?_) (a' := ?_) #[vF,vT,vT,vF,vF,vF,vT,vT,vF,vF,vF,vF] rfl rfl (by kernel_rfl) (fun _ _ _ h => h) (Or.inl ⟨by rfl, ?_⟩) hHeld ?_ ?_
 rotate_left
 · intro w' s0
   go_simp
   with_reducible rfl
 rotate_left
 · simp only [Act.put, List.setIfInBounds_toArray, List.set, i64_w, i32_w]
   rfl
 refine pure_ (i := 8) (N := some 11) (v := ?_) (a' := ?_) #[vF,vT,vT,vF,vF,vF,vT,vT,vT,vF,vF,vF] rfl rfl (by kernel_rfl) (fun _ _ _ h => h) (Or.inl ⟨by rfl, ?_⟩) ?_ ?_
 rotate_left
 · intro w'; go_simp; with_reducible rfl
 rotate_left
 · simp only [Act.put, List.setIfInBounds_toArray, List.set, i64_w, i32_w]
   rfl
 refine join_ (σ := Nat × (Option Addr × Nat) × Nat) 4 #[vT,vT,vT,vT,vT,vF,vT,vT,vT,vF,vF,vF] (fun s => [(3, Value.slice (some ⟨s.1, 0, none⟩) 0 0), (6, Value.slice s.2.1.1 lc.length s.2.1.2), (7, Value.slice (some ⟨s.2.2, 0, none⟩) 1 1)]) (fun s w' => Kd.R (Kd.int .u8) 5 w' W0.heap.size (fun _ => True) (.slice s.2.1.1 lc.length s.2.1.2) lc ∧ w'.heap[s.2.2]? = some (.cells #[.int .u8 77] 5 (0, 0)) ∧ Below W0.heap.size W0 w') ?_ ?_
 rotate_left
 · intro hCont
   refine two_ (i := 0) (j := 4) (Ni := some 3) (Nj := some 7) #[vT,vT,vT,vF,vF,vF,vT,vT,vT,vF,vF,vF] #[vF,vT,vT,vF,vT,vF,vT,vT,vT,vF,vF,vF] rfl rfl rfl rfl (by kernel_rfl) (by decide) (by decide) (fun K hK => ?_) (fun K hK => ?_)
   · skip
     refine value_ (w1 := ?_) (v := ?_) (by rfl) rfl ?_ ?_
     rotate_left 2
     · go_simp
       constructor
       · rfl
       · rfl
     have hn := lit0 .u8 5 W0.drew W0.heap.size (Nat.le_refl _)
     have L := below_alloc L (.cells #[] 5)
     refine hK.out _ _ (kB L x0) (fun hHeld => ?_)
     clear hK K
     refine norm_ (a' := ?_) ?_ ?_
     rotate_left
     · show Act.put _ (some 3) _ = _; simp only [Act.put, List.setIfInBounds_toArray, List.set, i64_w, i32_w]; rfl
     refine two_ (i := 3) (j := 4) (Ni := some 6) (Nj := some 7) #[vT,vT,vT,vT,vF,vF,vT,vT,vT,vF,vF,vF] #[vT,vT,vT,vF,vT,vF,vT,vT,vT,vF,vF,vF] rfl rfl rfl rfl (by kernel_rfl) (by decide) (by decide) (fun K hK => ?_) (fun K hK => ?_)
     · skip
       refine Kd.R_append_rows_step (Kd.int .u8) (Rr := (Kd.int .u8).K _) (w0 := W0) W0.heap.size (by rfl) (.tmp 3) (.tmp 5) 22 5 (.int .u8 0) 1 rfl Tryz.underlying22 Clone.inf5 rfl (by decide) (by omega) (.slice (some ⟨W0.heap.size, 0, none⟩) 0 0) [] lc _ _ _ (fun _ => True) (fun _ => False) rfl rfl hn (Kd.C_below Hlc.out (below_step HB0.out L)) (fun _ _ h => h) (fun _ h => h.elim) (fun _ _ => trivial) L (below_size L) (by simp only [List.length_nil]; have := HLlc.out; omega) ?_
       intro v6 w6 h6 hb6 hg6 _
       rw [List.nil_append] at h6
       have L := hb6
       obtain ⟨A6, c6, e6⟩ := Kd.R_slice h6
       subst e6
       refine hK.out _ _ (kB L x0) (fun hHeld => ?_)
       clear hK K
       refine norm_ (a' := ?_) ?_ ?_
       rotate_left
       · show Act.put _ (some 6) _ = _; simp only [Act.put, List.setIfInBounds_toArray, List.set, i64_w, i32_w]; rfl
       refine one_ (i := 4) (N := some 7) #[vT,vT,vT,vT,vT,vF,vT,vT,vT,vF,vF,vF] rfl rfl (by kernel_rfl) (by decide) (fun K hK => ?_)
       refine value_ (w1 := ?_) (v := ?_) (by rfl) rfl ?_ ?_
       rotate_left 2
       · go_simp
         constructor
         · rfl
         · rfl
       have h7 := blk_new w6 (.cells #[.int .u8 77] 5)
       have h6 := Kd.R_alloc h6 (.cells #[.int .u8 77] 5)
       have L := below_alloc L (.cells #[.int .u8 77] 5)
       refine hK.out _ _ (kB L x0) (fun hHeld => ?_)
       clear hK K
       refine norm_ (a' := ?_) ?_ ?_
       rotate_left
       · show Act.put _ (some 7) _ = _; simp only [Act.put, List.setIfInBounds_toArray, List.set, i64_w, i32_w]; rfl
       exact norm_ (by simp only [putAll, Act.put, List.setIfInBounds_toArray, List.set]) (hCont (W0.heap.size, (A6, c6), w6.heap.size) _ ⟨h6, (by simpa using h7), L⟩)
     · skip
       refine value_ (w1 := ?_) (v := ?_) (by rfl) rfl ?_ ?_
       rotate_left 2
       · go_simp
         constructor
         · rfl
         · rfl
       have h7 := blk_new (W0.drew.alloc (.cells #[] 5)) (.cells #[.int .u8 77] 5)
       have hn := Kd.R_alloc hn (.cells #[.int .u8 77] 5)
       have L := below_alloc L (.cells #[.int .u8 77] 5)
       refine hK.out _ _ (kB L x0) (fun hHeld => ?_)
       clear hK K
       refine norm_ (a' := ?_) ?_ ?_
       rotate_left
       · show Act.put _ (some 7) _ = _; simp only [Act.put, List.setIfInBounds_toArray, List.set, i64_w, i32_w]; rfl
       refine one_ (i := 3) (N := some 6) #[vT,vT,vT,vT,vT,vF,vT,vT,vT,vF,vF,vF] rfl rfl (by kernel_rfl) (by decide) (fun K hK => ?_)
       refine Kd.R_append_rows_step (Kd.int .u8) (Rr := (Kd.int .u8).K _) (w0 := W0) W0.heap.size (by rfl) (.tmp 3) (.tmp 5) 22 5 (.int .u8 0) 1 rfl Tryz.underlying22 Clone.inf5 rfl (by decide) (by omega) (.slice (some ⟨W0.heap.size, 0, none⟩) 0 0) [] lc _ _ _ (fun _ => True) (fun _ => False) rfl rfl hn (Kd.C_below Hlc.out (below_step HB0.out L)) (fun _ _ h => h) (fun _ h => h.elim) (fun _ _ => trivial) L (below_size L) (by simp only [List.length_nil]; have := HLlc.out; omega) ?_
       intro v6 w6 h6 hb6 hg6 _
       rw [List.nil_append] at h6
       have h7 := blk_grown h7 hg6 (by simp [Value.ownBlock])
       have L := hb6
       obtain ⟨A6, c6, e6⟩ := Kd.R_slice h6
       subst e6
       refine hK.out _ _ (kB L x0) (fun hHeld => ?_)
       clear hK K
       refine norm_ (a' := ?_) ?_ ?_
       rotate_left
       · show Act.put _ (some 6) _ = _; simp only [Act.put, List.setIfInBounds_toArray, List.set, i64_w, i32_w]; rfl
       exact norm_ (by simp only [putAll, Act.put, List.setIfInBounds_toArray, List.set]) (hCont (W0.heap.size, (A6, c6), W0.heap.size + 1) _ ⟨h6, (by simpa using h7), L⟩)
   · skip
     refine value_ (w1 := ?_) (v := ?_) (by rfl) rfl ?_ ?_
     rotate_left 2
     · go_simp
       constructor
       · rfl
       · rfl
     have h7 := blk_new W0.drew (.cells #[.int .u8 77] 5)
     have L := below_alloc L (.cells #[.int .u8 77] 5)
     refine hK.out _ _ (kB L x0) (fun hHeld => ?_)
     clear hK K
     refine norm_ (a' := ?_) ?_ ?_
     rotate_left
     · show Act.put _ (some 7) _ = _; simp only [Act.put, List.setIfInBounds_toArray, List.set, i64_w, i32_w]; rfl
     refine one_ (i := 0) (N := some 3) #[vT,vT,vT,vF,vT,vF,vT,vT,vT,vF,vF,vF] rfl rfl (by kernel_rfl) (by decide) (fun K hK => ?_)
     refine value_ (w1 := ?_) (v := ?_) (by rfl) rfl ?_ ?_
     rotate_left 2
     · go_simp
       constructor
       · rfl
       · rfl
     have hn : Kd.R (Kd.int .u8) 5 _ W0.heap.size (fun _ => True) (.slice (some ⟨W0.heap.size + 1, 0, none⟩) 0 0) [] := (by have h := lit0 .u8 5 (W0.drew.alloc (.cells #[.int .u8 77] 5)) W0.heap.size (below_size L); rw [World.size_alloc] at h; exact h)
     have h7 := blk_alloc_ h7 (.cells #[] 5)
     have L := below_alloc L (.cells #[] 5)
     refine hK.out _ _ (kB L x0) (fun hHeld => ?_)
     clear hK K
     refine norm_ (a' := ?_) ?_ ?_
     rotate_left
     · show Act.put _ (some 3) _ = _; simp only [Act.put, List.setIfInBounds_toArray, List.set, i64_w, i32_w]; rfl
     refine one_ (i := 3) (N := some 6) #[vT,vT,vT,vT,vT,vF,vT,vT,vT,vF,vF,vF] rfl rfl (by kernel_rfl) (by decide) (fun K hK => ?_)
     refine Kd.R_append_rows_step (Kd.int .u8) (Rr := (Kd.int .u8).K _) (w0 := W0) W0.heap.size (by rfl) (.tmp 3) (.tmp 5) 22 5 (.int .u8 0) 1 rfl Tryz.underlying22 Clone.inf5 rfl (by decide) (by omega) (.slice (some ⟨W0.heap.size + 1, 0, none⟩) 0 0) [] lc _ _ _ (fun _ => True) (fun _ => False) rfl rfl hn (Kd.C_below Hlc.out (below_step HB0.out L)) (fun _ _ h => h) (fun _ h => h.elim) (fun _ _ => trivial) L (below_size L) (by simp only [List.length_nil]; have := HLlc.out; omega) ?_
     intro v6 w6 h6 hb6 hg6 _
     rw [List.nil_append] at h6
     have h7 := blk_grown h7 hg6 (by simp [Value.ownBlock])
     have L := hb6
     obtain ⟨A6, c6, e6⟩ := Kd.R_slice h6
     subst e6
     refine hK.out _ _ (kB L x0) (fun hHeld => ?_)
     clear hK K
     refine norm_ (a' := ?_) ?_ ?_
     rotate_left
     · show Act.put _ (some 6) _ = _; simp only [Act.put, List.setIfInBounds_toArray, List.set, i64_w, i32_w]; rfl
     exact norm_ (by simp only [putAll, Act.put, List.setIfInBounds_toArray, List.set]) (hCont (W0.heap.size + 1, (A6, c6), W0.heap.size) _ ⟨h6, (by simpa using h7), L⟩)
 rintro ⟨b3, ⟨A6, c6⟩, b7⟩ w7 ⟨h6, h7, L⟩
 simp only at h6 h7
 have hHeld : w7.cell? ⟨w.heap.size, 0, none⟩ = some (.slice cA lc.length cc) := kB L x0
 refine norm_ (a' := ?_) ?_ ?_
 rotate_left
 · simp only [putAll, Act.put, List.setIfInBounds_toArray, List.set]
   rfl
 refine one_ (i := 5) (N := some 8) #[vT,vT,vT,vT,vT,vT,vT,vT,vT,vF,vF,vF] rfl rfl (by kernel_rfl) (by decide) (fun K hK => ?_)
 refine Kd.R_append_rows_step (Kd.int .u8) (Rr := (Kd.int .u8).K _) (w0 := W0) W0.heap.size (by rfl) (.tmp 6) (.tmp 7) 22 5 (.int .u8 0) 1 rfl Tryz.underlying22 Clone.inf5 rfl (by decide) (by omega) _ lc [77] _ _ _ (fun _ => True) (fun _ => False) rfl rfl h6 (one_C h7) (fun _ _ h => h) (fun _ h => h.elim) (fun _ _ => trivial) L (below_size L) (by have := HLlc.out; omega) ?_
 intro v8 w8_0 h8 hb8 _ _
 have L := hb8
 obtain ⟨A8_0, c8_0, e8⟩ := Kd.R_slice h8
 rw [List.length_append, List.length_singleton] at e8
 subst e8
 have hc8 : lc.length + 1 ≤ c8_0 := (by have := (Kd.R_reads' h8).2.1; omega)
 have hc9 : lc.length ≤ c8_0 := by omega
 have hd9 : ((lc.length : Int) ≤ (c8_0 : Int)) = True := eq_true (by omega)
 have H8_0 := Aside0.mk h8
 have HC8_0 := Aside0.mk hc8
 clear hb8 h8
 refine hK.out _ _ (kB L x0) (fun hHeld => ?_)
 clear hK K
 refine norm_ (a' := ?_) ?_ ?_
 rotate_left
 · show Act.put _ (some 8) _ = _; simp only [Act.put, List.setIfInBounds_toArray, List.set, i64_w, i32_w]; rfl
 refine pure_ (i := 9) (N := some 12) (v := ?_) (a' := ?_) #[vT,vT,vT,vT,vT,vT,vT,vT,vT,vT,vF,vF] rfl rfl (by kernel_rfl) (fun _ _ _ h => h) (Or.inl ⟨by rfl, ?_⟩) ?_ ?_
 rotate_left
 · intro w'; go_simp; with_reducible rfl
 rotate_left
 · simp only [Act.put, List.setIfInBounds_toArray, List.set, i64_w, i32_w]
   rfl
 refine pure_ (i := 10) (N := some 13) (v := ?_) (a' := ?_) #[vT,vT,vT,vT,vT,vT,vT,vT,vT,vT,vT,vF] rfl rfl (by kernel_rfl) (fun _ _ _ h => h) (Or.inl ⟨by rfl, ?_⟩) ?_ ?_
 rotate_left
 · intro w'; go_simp; with_reducible rfl
 rotate_left
 · simp only [Act.put, List.setIfInBounds_toArray, List.set, i64_w, i32_w]
   rfl
 refine last_ (i := 11) (N := none) #[vT,vT,vT,vT,vT,vT,vT,vT,vT,vT,vT,vT] rfl rfl (by kernel_rfl) (by decide) (fun K hK => ?_)
 have fz := blk_frozen (blk_below HX0.out L) 0
 have fy := blk_cell (blk_below HX0.out L) 0
 simp only [List.getElem?_toArray, List.getElem?_cons_zero, List.getElem?_cons_succ] at fy
 refine skip_ (w1 := ?_) (by rfl) rfl ?_ ?_
 rotate_left
 · go_simp
   rfl
 refine hK.out _ _ ?_
 clear hK K
 refine done_ (by kernel_rfl) ?_
 have hX := blk_below HX0.out L
 have HX1 := Aside0.mk (blk_put (cs' := #[.slice A8_0 lc.length c8_0, .slice dA ld.length dc, .slice rA lr.length rc, .slice sA ls.length sc, .int .i64 fr, .int .i64 fu]) hX 0 (.slice A8_0 lc.length c8_0) rfl)
 have HB1 := Aside0.mk ((below_step HB0.out L).setCell (p := ⟨w.heap.size, 0, none⟩) (Nat.le_refl _) (.slice A8_0 lc.length c8_0))
 have HZ1 := Aside0.mk (blk_far (blk_below HZ0.out L) (p := ⟨w.heap.size, 0, none⟩) (by show w.heap.size + 1 ≠ w.heap.size; omega) (.slice A8_0 lc.length c8_0))
 have HR0_0 := Aside0.mk (Kd.R_set H8_0.out hX (by decide) 0 (.slice A8_0 lc.length c8_0))
 have HS0 := Aside0.mk (below_size HB0.out)
 have HK := Aside0.mk (Kd.R_lt HR0_0.out)
 clear hX L h6 h7 hHeld fz fy x0 HX0 HZ0 H8_0
 generalize (w8_0.setCell ⟨w.heap.size, 0, none⟩ (.slice A8_0 lc.length c8_0)) = W1 at *
 have x1 := blk_cell HX1.out 1
 simp only [List.getElem?_toArray, List.getElem?_cons_zero, List.getElem?_cons_succ] at x1
 go_wp2_with fail
 have L := below_drew1 (Below.refl W1.heap.size W1)
 refine start_ (n := 12) (S := fun w' => w'.cell? ⟨w.heap.size, 1, none⟩ = some (.slice dA ld.length dc)) (ds := [11]) #[vF,vF,vF,vF,vF,vF,vF,vF,vF,vF,vF,vF] (by kernel_rfl) rfl rfl (kB L x1) (fun hHeld => ?_)
 refine pure_ (i := 1) (N := some 15) (v := ?_) (a' := ?_) #[vF,vT,vF,vF,vF,vF,vF,vF,vF,vF,vF,vF] rfl rfl (by kernel_rfl) (fun _ _ _ h => h) (Or.inl ⟨by rfl, ?_⟩) ?_ ?_
 rotate_left
 · intro w'; go_simp; with_reducible rfl
 rotate_left
 · simp only [Act.put, List.setIfInBounds_toArray, List.set, i64_w, i32_w]
   rfl
 refine pure_ (i := 6) (N := some 20) (v := ?_) (a' := ?_) #[vF,vT,vF,vF,vF,vF,vT,vF,vF,vF,vF,vF] rfl rfl (by kernel_rfl) (fun _ _ _ h => h) (Or.inl ⟨by rfl, ?_⟩) ?_ ?_
 rotate_left
 · intro w'; go_simp; with_reducible rfl
 rotate_left
 · simp only [Act.put, List.setIfInBounds_toArray, List.set, i64_w, i32_w]
   rfl
 refine take_ (i := 2) (N := some 16) (v := ?_) (a' := ?_) #[vF,vT,vT,vF,vF,vF,vT,vF,vF,vF,vF,vF] rfl rfl (by kernel_rfl) (fun _ _ _ h => h) (Or.inl ⟨by rfl, ?_⟩) hHeld ?_ ?_
 rotate_left
 · intro w' s0
   go_simp
   with_reducible rfl
 rotate_left
 · simp only [Act.put, List.setIfInBounds_toArray, List.set, i64_w, i32_w]
   rfl
 refine take_ (i := 7) (N := some 21) (v := ?_) (a' := ?_) #[vF,vT,vT,vF,vF,vF,vT,vT,vF,vF,vF,vF] rfl rfl (by kernel_rfl) (fun _ _ _ h => h) (Or.inl ⟨by rfl, ?_⟩) hHeld ?_ ?_
 rotate_left
 · intro w' s0
   go_simp
   with_reducible rfl
 rotate_left
 · simp only [Act.put, List.setIfInBounds_toArray, List.set, i64_w, i32_w]
   rfl
 refine pure_ (i := 8) (N := some 22) (v := ?_) (a' := ?_) #[vF,vT,vT,vF,vF,vF,vT,vT,vT,vF,vF,vF] rfl rfl (by kernel_rfl) (fun _ _ _ h => h) (Or.inl ⟨by rfl, ?_⟩) ?_ ?_
 rotate_left
 · intro w'; go_simp; with_reducible rfl
 rotate_left
 · simp only [Act.put, List.setIfInBounds_toArray, List.set, i64_w, i32_w]
   rfl
 refine join_ (σ := Nat × (Option Addr × Nat) × Nat) 4 #[vT,vT,vT,vT,vT,vF,vT,vT,vT,vF,vF,vF] (fun s => [(14, Value.slice (some ⟨s.1, 0, none⟩) 0 0), (17, Value.slice s.2.1.1 ld.length s.2.1.2), (18, Value.slice (some ⟨s.2.2, 0, none⟩) 1 1)]) (fun s w' => Kd.R (Kd.int .u8) 5 w' W1.heap.size (fun _ => True) (.slice s.2.1.1 ld.length s.2.1.2) ld ∧ w'.heap[s.2.2]? = some (.cells #[.int .u8 77] 5 (0, 0)) ∧ Below W1.heap.size W1 w') ?_ ?_
 rotate_left
 · intro hCont
   refine two_ (i := 0) (j := 4) (Ni := some 14) (Nj := some 18) #[vT,vT,vT,vF,vF,vF,vT,vT,vT,vF,vF,vF] #[vF,vT,vT,vF,vT,vF,vT,vT,vT,vF,vF,vF] rfl rfl rfl rfl (by kernel_rfl) (by decide) (by decide) (fun K hK => ?_) (fun K hK => ?_)
   · skip
     refine value_ (w1 := ?_) (v := ?_) (by rfl) rfl ?_ ?_
     rotate_left 2
     · go_simp
       constructor
       · rfl
       · rfl
     have hn := lit0 .u8 5 W1.drew W1.heap.size (Nat.le_refl _)
     have L := below_alloc L (.cells #[] 5)
     refine hK.out _ _ (kB L x1) (fun hHeld => ?_)
     clear hK K
     refine norm_ (a' := ?_) ?_ ?_
     rotate_left
     · show Act.put _ (some 14) _ = _; simp only [Act.put, List.setIfInBounds_toArray, List.set, i64_w, i32_w]; rfl
     refine two_ (i := 3) (j := 4) (Ni := some 17) (Nj := some 18) #[vT,vT,vT,vT,vF,vF,vT,vT,vT,vF,vF,vF] #[vT,vT,vT,vF,vT,vF,vT,vT,vT,vF,vF,vF] rfl rfl rfl rfl (by kernel_rfl) (by decide) (by decide) (fun K hK => ?_) (fun K hK => ?_)
     · skip
       refine Kd.R_append_rows_step (Kd.int .u8) (Rr := (Kd.int .u8).K _) (w0 := W1) W1.heap.size (by rfl) (.tmp 14) (.tmp 16) 22 5 (.int .u8 0) 1 rfl Tryz.underlying22 Clone.inf5 rfl (by decide) (by omega) (.slice (some ⟨W1.heap.size, 0, none⟩) 0 0) [] ld _ _ _ (fun _ => True) (fun _ => False) rfl rfl hn (Kd.C_below Hld.out (below_step HB1.out L)) (fun _ _ h => h) (fun _ h => h.elim) (fun _ _ => trivial) L (below_size L) (by simp only [List.length_nil]; have := HLld.out; omega) ?_
       intro v6 w6 h6 hb6 hg6 _
       rw [List.nil_append] at h6
       have L := hb6
       obtain ⟨A6, c6, e6⟩ := Kd.R_slice h6
       subst e6
       refine hK.out _ _ (kB L x1) (fun hHeld => ?_)
       clear hK K
       refine norm_ (a' := ?_) ?_ ?_
       rotate_left
       · show Act.put _ (some 17) _ = _; simp only [Act.put, List.setIfInBounds_toArray, List.set, i64_w, i32_w]; rfl
       refine one_ (i := 4) (N := some 18) #[vT,vT,vT,vT,vT,vF,vT,vT,vT,vF,vF,vF] rfl rfl (by kernel_rfl) (by decide) (fun K hK => ?_)
       refine value_ (w1 := ?_) (v := ?_) (by rfl) rfl ?_ ?_
       rotate_left 2
       · go_simp
         constructor
         · rfl
         · rfl
       have h7 := blk_new w6 (.cells #[.int .u8 77] 5)
       have h6 := Kd.R_alloc h6 (.cells #[.int .u8 77] 5)
       have L := below_alloc L (.cells #[.int .u8 77] 5)
       refine hK.out _ _ (kB L x1) (fun hHeld => ?_)
       clear hK K
       refine norm_ (a' := ?_) ?_ ?_
       rotate_left
       · show Act.put _ (some 18) _ = _; simp only [Act.put, List.setIfInBounds_toArray, List.set, i64_w, i32_w]; rfl
       exact norm_ (by simp only [putAll, Act.put, List.setIfInBounds_toArray, List.set]) (hCont (W1.heap.size, (A6, c6), w6.heap.size) _ ⟨h6, (by simpa using h7), L⟩)
     · skip
       refine value_ (w1 := ?_) (v := ?_) (by rfl) rfl ?_ ?_
       rotate_left 2
       · go_simp
         constructor
         · rfl
         · rfl
       have h7 := blk_new (W1.drew.alloc (.cells #[] 5)) (.cells #[.int .u8 77] 5)
       have hn := Kd.R_alloc hn (.cells #[.int .u8 77] 5)
       have L := below_alloc L (.cells #[.int .u8 77] 5)
       refine hK.out _ _ (kB L x1) (fun hHeld => ?_)
       clear hK K
       refine norm_ (a' := ?_) ?_ ?_
       rotate_left
       · show Act.put _ (some 18) _ = _; simp only [Act.put, List.setIfInBounds_toArray, List.set, i64_w, i32_w]; rfl
       refine one_ (i := 3) (N := some 17) #[vT,vT,vT,vT,vT,vF,vT,vT,vT,vF,vF,vF] rfl rfl (by kernel_rfl) (by decide) (fun K hK => ?_)
       refine Kd.R_append_rows_step (Kd.int .u8) (Rr := (Kd.int .u8).K _) (w0 := W1) W1.heap.size (by rfl) (.tmp 14) (.tmp 16) 22 5 (.int .u8 0) 1 rfl Tryz.underlying22 Clone.inf5 rfl (by decide) (by omega) (.slice (some ⟨W1.heap.size, 0, none⟩) 0 0) [] ld _ _ _ (fun _ => True) (fun _ => False) rfl rfl hn (Kd.C_below Hld.out (below_step HB1.out L)) (fun _ _ h => h) (fun _ h => h.elim) (fun _ _ => trivial) L (below_size L) (by simp only [List.length_nil]; have := HLld.out; omega) ?_
       intro v6 w6 h6 hb6 hg6 _
       rw [List.nil_append] at h6
       have h7 := blk_grown h7 hg6 (by simp [Value.ownBlock])
       have L := hb6
       obtain ⟨A6, c6, e6⟩ := Kd.R_slice h6
       subst e6
       refine hK.out _ _ (kB L x1) (fun hHeld => ?_)
       clear hK K
       refine norm_ (a' := ?_) ?_ ?_
       rotate_left
       · show Act.put _ (some 17) _ = _; simp only [Act.put, List.setIfInBounds_toArray, List.set, i64_w, i32_w]; rfl
       exact norm_ (by simp only [putAll, Act.put, List.setIfInBounds_toArray, List.set]) (hCont (W1.heap.size, (A6, c6), W1.heap.size + 1) _ ⟨h6, (by simpa using h7), L⟩)
   · skip
     refine value_ (w1 := ?_) (v := ?_) (by rfl) rfl ?_ ?_
     rotate_left 2
     · go_simp
       constructor
       · rfl
       · rfl
     have h7 := blk_new W1.drew (.cells #[.int .u8 77] 5)
     have L := below_alloc L (.cells #[.int .u8 77] 5)
     refine hK.out _ _ (kB L x1) (fun hHeld => ?_)
     clear hK K
     refine norm_ (a' := ?_) ?_ ?_
     rotate_left
     · show Act.put _ (some 18) _ = _; simp only [Act.put, List.setIfInBounds_toArray, List.set, i64_w, i32_w]; rfl
     refine one_ (i := 0) (N := some 14) #[vT,vT,vT,vF,vT,vF,vT,vT,vT,vF,vF,vF] rfl rfl (by kernel_rfl) (by decide) (fun K hK => ?_)
     refine value_ (w1 := ?_) (v := ?_) (by rfl) rfl ?_ ?_
     rotate_left 2
     · go_simp
       constructor
       · rfl
       · rfl
     have hn : Kd.R (Kd.int .u8) 5 _ W1.heap.size (fun _ => True) (.slice (some ⟨W1.heap.size + 1, 0, none⟩) 0 0) [] := (by have h := lit0 .u8 5 (W1.drew.alloc (.cells #[.int .u8 77] 5)) W1.heap.size (below_size L); rw [World.size_alloc] at h; exact h)
     have h7 := blk_alloc_ h7 (.cells #[] 5)
     have L := below_alloc L (.cells #[] 5)
     refine hK.out _ _ (kB L x1) (fun hHeld => ?_)
     clear hK K
     refine norm_ (a' := ?_) ?_ ?_
     rotate_left
     · show Act.put _ (some 14) _ = _; simp only [Act.put, List.setIfInBounds_toArray, List.set, i64_w, i32_w]; rfl
     refine one_ (i := 3) (N := some 17) #[vT,vT,vT,vT,vT,vF,vT,vT,vT,vF,vF,vF] rfl rfl (by kernel_rfl) (by decide) (fun K hK => ?_)
     refine Kd.R_append_rows_step (Kd.int .u8) (Rr := (Kd.int .u8).K _) (w0 := W1) W1.heap.size (by rfl) (.tmp 14) (.tmp 16) 22 5 (.int .u8 0) 1 rfl Tryz.underlying22 Clone.inf5 rfl (by decide) (by omega) (.slice (some ⟨W1.heap.size + 1, 0, none⟩) 0 0) [] ld _ _ _ (fun _ => True) (fun _ => False) rfl rfl hn (Kd.C_below Hld.out (below_step HB1.out L)) (fun _ _ h => h) (fun _ h => h.elim) (fun _ _ => trivial) L (below_size L) (by simp only [List.length_nil]; have := HLld.out; omega) ?_
     intro v6 w6 h6 hb6 hg6 _
     rw [List.nil_append] at h6
     have h7 := blk_grown h7 hg6 (by simp [Value.ownBlock])
     have L := hb6
     obtain ⟨A6, c6, e6⟩ := Kd.R_slice h6
     subst e6
     refine hK.out _ _ (kB L x1) (fun hHeld => ?_)
     clear hK K
     refine norm_ (a' := ?_) ?_ ?_
     rotate_left
     · show Act.put _ (some 17) _ = _; simp only [Act.put, List.setIfInBounds_toArray, List.set, i64_w, i32_w]; rfl
     exact norm_ (by simp only [putAll, Act.put, List.setIfInBounds_toArray, List.set]) (hCont (W1.heap.size + 1, (A6, c6), W1.heap.size) _ ⟨h6, (by simpa using h7), L⟩)
 rintro ⟨b3, ⟨A6, c6⟩, b7⟩ w7 ⟨h6, h7, L⟩
 simp only at h6 h7
 have hHeld : w7.cell? ⟨w.heap.size, 1, none⟩ = some (.slice dA ld.length dc) := kB L x1
 refine norm_ (a' := ?_) ?_ ?_
 rotate_left
 · simp only [putAll, Act.put, List.setIfInBounds_toArray, List.set]
   rfl
 refine one_ (i := 5) (N := some 19) #[vT,vT,vT,vT,vT,vT,vT,vT,vT,vF,vF,vF] rfl rfl (by kernel_rfl) (by decide) (fun K hK => ?_)
 refine Kd.R_append_rows_step (Kd.int .u8) (Rr := (Kd.int .u8).K _) (w0 := W1) W1.heap.size (by rfl) (.tmp 17) (.tmp 18) 22 5 (.int .u8 0) 1 rfl Tryz.underlying22 Clone.inf5 rfl (by decide) (by omega) _ ld [77] _ _ _ (fun _ => True) (fun _ => False) rfl rfl h6 (one_C h7) (fun _ _ h => h) (fun _ h => h.elim) (fun _ _ => trivial) L (below_size L) (by have := HLld.out; omega) ?_
 intro v8 w8_1 h8 hb8 _ _
 have L := hb8
 obtain ⟨A8_1, c8_1, e8⟩ := Kd.R_slice h8
 rw [List.length_append, List.length_singleton] at e8
 subst e8
 have hc8 : ld.length + 1 ≤ c8_1 := (by have := (Kd.R_reads' h8).2.1; omega)
 have hc9 : ld.length ≤ c8_1 := by omega
 have hd9 : ((ld.length : Int) ≤ (c8_1 : Int)) = True := eq_true (by omega)
 have H8_1 := Aside0.mk h8
 have HC8_1 := Aside0.mk hc8
 clear hb8 h8
 refine hK.out _ _ (kB L x1) (fun hHeld => ?_)
 clear hK K
 refine norm_ (a' := ?_) ?_ ?_
 rotate_left
 · show Act.put _ (some 19) _ = _; simp only [Act.put, List.setIfInBounds_toArray, List.set, i64_w, i32_w]; rfl
 refine pure_ (i := 9) (N := some 23) (v := ?_) (a' := ?_) #[vT,vT,vT,vT,vT,vT,vT,vT,vT,vT,vF,vF] rfl rfl (by kernel_rfl) (fun _ _ _ h => h) (Or.inl ⟨by rfl, ?_⟩) ?_ ?_
 rotate_left
 · intro w'; go_simp; with_reducible rfl
 rotate_left
 · simp only [Act.put, List.setIfInBounds_toArray, List.set, i64_w, i32_w]
   rfl
 refine pure_ (i := 10) (N := some 24) (v := ?_) (a' := ?_) #[vT,vT,vT,vT,vT,vT,vT,vT,vT,vT,vT,vF] rfl rfl (by kernel_rfl) (fun _ _ _ h => h) (Or.inl ⟨by rfl, ?_⟩) ?_ ?_
 rotate_left
 · intro w'; go_simp; with_reducible rfl
 rotate_left
 · simp only [Act.put, List.setIfInBounds_toArray, List.set, i64_w, i32_w]
   rfl
 refine last_ (i := 11) (N := none) #[vT,vT,vT,vT,vT,vT,vT,vT,vT,vT,vT,vT] rfl rfl (by kernel_rfl) (by decide) (fun K hK => ?_)
 have fz := blk_frozen (blk_below HX1.out L) 1
 have fy := blk_cell (blk_below HX1.out L) 1
 simp only [List.getElem?_toArray, List.getElem?_cons_zero, List.getElem?_cons_succ] at fy
 refine skip_ (w1 := ?_) (by rfl) rfl ?_ ?_
 rotate_left
 · go_simp
   rfl
 refine hK.out _ _ ?_
 clear hK K
 refine done_ (by kernel_rfl) ?_
 have hX := blk_below HX1.out L
 have HX2 := Aside0.mk (blk_put (cs' := #[.slice A8_0 lc.length c8_0, .slice A8_1 ld.length c8_1, .slice rA lr.length rc, .slice sA ls.length sc, .int .i64 fr, .int .i64 fu]) hX 1 (.slice A8_1 ld.length c8_1) rfl)
 have HB2 := Aside0.mk ((below_step HB1.out L).setCell (p := ⟨w.heap.size, 1, none⟩) (Nat.le_refl _) (.slice A8_1 ld.length c8_1))
 have HZ2 := Aside0.mk (blk_far (blk_below HZ1.out L) (p := ⟨w.heap.size, 1, none⟩) (by show w.heap.size + 1 ≠ w.heap.size; omega) (.slice A8_1 ld.length c8_1))
 have HR1_1 := Aside0.mk (Kd.R_set H8_1.out hX (by decide) 1 (.slice A8_1 ld.length c8_1))
 have HR0_1 := Aside0.mk (Kd.R_set (Kd.R_below HR0_0.out L) hX (by decide) 1 (.slice A8_1 ld.length c8_1))
 clear HR0_0
 have HS1 := Aside0.mk (below_size HB1.out)
 clear hX L h6 h7 hHeld fz fy x1 HX1 HZ1 H8_1
 generalize (w8_1.setCell ⟨w.heap.size, 1, none⟩ (.slice A8_1 ld.length c8_1)) = W2 at *
 have x2 := blk_cell HX2.out 2
 simp only [List.getElem?_toArray, List.getElem?_cons_zero, List.getElem?_cons_succ] at x2
 go_wp2_with fail
 have L := below_drew1 (Below.refl W2.heap.size W2)
 refine start_ (n := 12) (S := fun w' => w'.cell? ⟨w.heap.size, 2, none⟩ = some (.slice rA lr.length rc)) (ds := [11]) #[vF,vF,vF,vF,vF,vF,vF,vF,vF,vF,vF,vF] (by kernel_rfl) rfl rfl (kB L x2) (fun hHeld => ?_)
 refine pure_ (i := 1) (N := some 26) (v := ?_) (a' := ?_) #[vF,vT,vF,vF,vF,vF,vF,vF,vF,vF,vF,vF] rfl rfl (by kernel_rfl) (fun _ _ _ h => h) (Or.inl ⟨by rfl, ?_⟩) ?_ ?_
 rotate_left
 · intro w'; go_simp; with_reducible rfl
 rotate_left
 · simp only [Act.put, List.setIfInBounds_toArray, List.set, i64_w, i32_w]
   rfl
 refine pure_ (i := 6) (N := some 31) (v := ?_) (a' := ?_) #[vF,vT,vF,vF,vF,vF,vT,vF,vF,vF,vF,vF] rfl rfl (by kernel_rfl) (fun _ _ _ h => h) (Or.inl ⟨by rfl, ?_⟩) ?_ ?_
 rotate_left
 · intro w'; go_simp; with_reducible rfl
 rotate_left
 · simp only [Act.put, List.setIfInBounds_toArray, List.set, i64_w, i32_w]
   rfl
 refine take_ (i := 2) (N := some 27) (v := ?_) (a' := ?_) #[vF,vT,vT,vF,vF,vF,vT,vF,vF,vF,vF,vF] rfl rfl (by kernel_rfl) (fun _ _ _ h => h) (Or.inl ⟨by rfl, ?_⟩) hHeld ?_ ?_
 rotate_left
 · intro w' s0
   go_simp
   with_reducible rfl
 rotate_left
 · simp only [Act.put, List.setIfInBounds_toArray, List.set, i64_w, i32_w]
   rfl
 refine take_ (i := 7) (N := some 32) (v := ?_) (a' := ?_) #[vF,vT,vT,vF,vF,vF,vT,vT,vF,vF,vF,vF] rfl rfl (by kernel_rfl) (fun _ _ _ h => h) (Or.inl ⟨by rfl, ?_⟩) hHeld ?_ ?_
 rotate_left
 · intro w' s0
   go_simp
   with_reducible rfl
 rotate_left
 · simp only [Act.put, List.setIfInBounds_toArray, List.set, i64_w, i32_w]
   rfl
 refine pure_ (i := 8) (N := some 33) (v := ?_) (a' := ?_) #[vF,vT,vT,vF,vF,vF,vT,vT,vT,vF,vF,vF] rfl rfl (by kernel_rfl) (fun _ _ _ h => h) (Or.inl ⟨by rfl, ?_⟩) ?_ ?_
 rotate_left
 · intro w'; go_simp; with_reducible rfl
 rotate_left
 · simp only [Act.put, List.setIfInBounds_toArray, List.set, i64_w, i32_w]
   rfl
 refine join_ (σ := Nat × (Option Addr × Nat) × Nat) 4 #[vT,vT,vT,vT,vT,vF,vT,vT,vT,vF,vF,vF] (fun s => [(25, Value.slice (some ⟨s.1, 0, none⟩) 0 0), (28, Value.slice s.2.1.1 lr.length s.2.1.2), (29, Value.slice (some ⟨s.2.2, 0, none⟩) 1 1)]) (fun s w' => Kd.R (Kd.int .u64) 52 w' W2.heap.size (fun _ => True) (.slice s.2.1.1 lr.length s.2.1.2) lr ∧ w'.heap[s.2.2]? = some (.cells #[.int .u64 77] 52 (0, 0)) ∧ Below W2.heap.size W2 w') ?_ ?_
 rotate_left
 · intro hCont
   refine two_ (i := 0) (j := 4) (Ni := some 25) (Nj := some 29) #[vT,vT,vT,vF,vF,vF,vT,vT,vT,vF,vF,vF] #[vF,vT,vT,vF,vT,vF,vT,vT,vT,vF,vF,vF] rfl rfl rfl rfl (by kernel_rfl) (by decide) (by decide) (fun K hK => ?_) (fun K hK => ?_)
   · skip
     refine value_ (w1 := ?_) (v := ?_) (by rfl) rfl ?_ ?_
     rotate_left 2
     · go_simp
       constructor
       · rfl
       · rfl
     have hn := lit0 .u64 52 W2.drew W2.heap.size (Nat.le_refl _)
     have L := below_alloc L (.cells #[] 52)
     refine hK.out _ _ (kB L x2) (fun hHeld => ?_)
     clear hK K
     refine norm_ (a' := ?_) ?_ ?_
     rotate_left
     · show Act.put _ (some 25) _ = _; simp only [Act.put, List.setIfInBounds_toArray, List.set, i64_w, i32_w]; rfl
     refine two_ (i := 3) (j := 4) (Ni := some 28) (Nj := some 29) #[vT,vT,vT,vT,vF,vF,vT,vT,vT,vF,vF,vF] #[vT,vT,vT,vF,vT,vF,vT,vT,vT,vF,vF,vF] rfl rfl rfl rfl (by kernel_rfl) (by decide) (by decide) (fun K hK => ?_) (fun K hK => ?_)
     · skip
       refine Kd.R_append_rows_step (Kd.int .u64) (Rr := (Kd.int .u64).K _) (w0 := W2) W2.heap.size (by rfl) (.tmp 25) (.tmp 27) 23 52 (.int .u64 0) 8 rfl Tryz.underlying23 Clone.inf52 rfl (by decide) (by omega) (.slice (some ⟨W2.heap.size, 0, none⟩) 0 0) [] lr _ _ _ (fun _ => True) (fun _ => False) rfl rfl hn (Kd.C_below Hlr.out (below_step HB2.out L)) (fun _ _ h => h) (fun _ h => h.elim) (fun _ _ => trivial) L (below_size L) (by simp only [List.length_nil]; have := HLlr.out; omega) ?_
       intro v6 w6 h6 hb6 hg6 _
       rw [List.nil_append] at h6
       have L := hb6
       obtain ⟨A6, c6, e6⟩ := Kd.R_slice h6
       subst e6
       refine hK.out _ _ (kB L x2) (fun hHeld => ?_)
       clear hK K
       refine norm_ (a' := ?_) ?_ ?_
       rotate_left
       · show Act.put _ (some 28) _ = _; simp only [Act.put, List.setIfInBounds_toArray, List.set, i64_w, i32_w]; rfl
       refine one_ (i := 4) (N := some 29) #[vT,vT,vT,vT,vT,vF,vT,vT,vT,vF,vF,vF] rfl rfl (by kernel_rfl) (by decide) (fun K hK => ?_)
       refine value_ (w1 := ?_) (v := ?_) (by rfl) rfl ?_ ?_
       rotate_left 2
       · go_simp
         constructor
         · rfl
         · rfl
       have h7 := blk_new w6 (.cells #[.int .u64 77] 52)
       have h6 := Kd.R_alloc h6 (.cells #[.int .u64 77] 52)
       have L := below_alloc L (.cells #[.int .u64 77] 52)
       refine hK.out _ _ (kB L x2) (fun hHeld => ?_)
       clear hK K
       refine norm_ (a' := ?_) ?_ ?_
       rotate_left
       · show Act.put _ (some 29) _ = _; simp only [Act.put, List.setIfInBounds_toArray, List.set, i64_w, i32_w]; rfl
       exact norm_ (by simp only [putAll, Act.put, List.setIfInBounds_toArray, List.set]) (hCont (W2.heap.size, (A6, c6), w6.heap.size) _ ⟨h6, (by simpa using h7), L⟩)
     · skip
       refine value_ (w1 := ?_) (v := ?_) (by rfl) rfl ?_ ?_
       rotate_left 2
       · go_simp
         constructor
         · rfl
         · rfl
       have h7 := blk_new (W2.drew.alloc (.cells #[] 52)) (.cells #[.int .u64 77] 52)
       have hn := Kd.R_alloc hn (.cells #[.int .u64 77] 52)
       have L := below_alloc L (.cells #[.int .u64 77] 52)
       refine hK.out _ _ (kB L x2) (fun hHeld => ?_)
       clear hK K
       refine norm_ (a' := ?_) ?_ ?_
       rotate_left
       · show Act.put _ (some 29) _ = _; simp only [Act.put, List.setIfInBounds_toArray, List.set, i64_w, i32_w]; rfl
       refine one_ (i := 3) (N := some 28) #[vT,vT,vT,vT,vT,vF,vT,vT,vT,vF,vF,vF] rfl rfl (by kernel_rfl) (by decide) (fun K hK => ?_)
       refine Kd.R_append_rows_step (Kd.int .u64) (Rr := (Kd.int .u64).K _) (w0 := W2) W2.heap.size (by rfl) (.tmp 25) (.tmp 27) 23 52 (.int .u64 0) 8 rfl Tryz.underlying23 Clone.inf52 rfl (by decide) (by omega) (.slice (some ⟨W2.heap.size, 0, none⟩) 0 0) [] lr _ _ _ (fun _ => True) (fun _ => False) rfl rfl hn (Kd.C_below Hlr.out (below_step HB2.out L)) (fun _ _ h => h) (fun _ h => h.elim) (fun _ _ => trivial) L (below_size L) (by simp only [List.length_nil]; have := HLlr.out; omega) ?_
       intro v6 w6 h6 hb6 hg6 _
       rw [List.nil_append] at h6
       have h7 := blk_grown h7 hg6 (by simp [Value.ownBlock])
       have L := hb6
       obtain ⟨A6, c6, e6⟩ := Kd.R_slice h6
       subst e6
       refine hK.out _ _ (kB L x2) (fun hHeld => ?_)
       clear hK K
       refine norm_ (a' := ?_) ?_ ?_
       rotate_left
       · show Act.put _ (some 28) _ = _; simp only [Act.put, List.setIfInBounds_toArray, List.set, i64_w, i32_w]; rfl
       exact norm_ (by simp only [putAll, Act.put, List.setIfInBounds_toArray, List.set]) (hCont (W2.heap.size, (A6, c6), W2.heap.size + 1) _ ⟨h6, (by simpa using h7), L⟩)
   · skip
     refine value_ (w1 := ?_) (v := ?_) (by rfl) rfl ?_ ?_
     rotate_left 2
     · go_simp
       constructor
       · rfl
       · rfl
     have h7 := blk_new W2.drew (.cells #[.int .u64 77] 52)
     have L := below_alloc L (.cells #[.int .u64 77] 52)
     refine hK.out _ _ (kB L x2) (fun hHeld => ?_)
     clear hK K
     refine norm_ (a' := ?_) ?_ ?_
     rotate_left
     · show Act.put _ (some 29) _ = _; simp only [Act.put, List.setIfInBounds_toArray, List.set, i64_w, i32_w]; rfl
     refine one_ (i := 0) (N := some 25) #[vT,vT,vT,vF,vT,vF,vT,vT,vT,vF,vF,vF] rfl rfl (by kernel_rfl) (by decide) (fun K hK => ?_)
     refine value_ (w1 := ?_) (v := ?_) (by rfl) rfl ?_ ?_
     rotate_left 2
     · go_simp
       constructor
       · rfl
       · rfl
     have hn : Kd.R (Kd.int .u64) 52 _ W2.heap.size (fun _ => True) (.slice (some ⟨W2.heap.size + 1, 0, none⟩) 0 0) [] := (by have h := lit0 .u64 52 (W2.drew.alloc (.cells #[.int .u64 77] 52)) W2.heap.size (below_size L); rw [World.size_alloc] at h; exact h)
     have h7 := blk_alloc_ h7 (.cells #[] 52)
     have L := below_alloc L (.cells #[] 52)
     refine hK.out _ _ (kB L x2) (fun hHeld => ?_)
     clear hK K
     refine norm_ (a' := ?_) ?_ ?_
     rotate_left
     · show Act.put _ (some 25) _ = _; simp only [Act.put, List.setIfInBounds_toArray, List.set, i64_w, i32_w]; rfl
     refine one_ (i := 3) (N := some 28) #[vT,vT,vT,vT,vT,vF,vT,vT,vT,vF,vF,vF] rfl rfl (by kernel_rfl) (by decide) (fun K hK => ?_)
     refine Kd.R_append_rows_step (Kd.int .u64) (Rr := (Kd.int .u64).K _) (w0 := W2) W2.heap.size (by rfl) (.tmp 25) (.tmp 27) 23 52 (.int .u64 0) 8 rfl Tryz.underlying23 Clone.inf52 rfl (by decide) (by omega) (.slice (some ⟨W2.heap.size + 1, 0, none⟩) 0 0) [] lr _ _ _ (fun _ => True) (fun _ => False) rfl rfl hn (Kd.C_below Hlr.out (below_step HB2.out L)) (fun _ _ h => h) (fun _ h => h.elim) (fun _ _ => trivial) L (below_size L) (by simp only [List.length_nil]; have := HLlr.out; omega) ?_
     intro v6 w6 h6 hb6 hg6 _
     rw [List.nil_append] at h6
     have h7 := blk_grown h7 hg6 (by simp [Value.ownBlock])
     have L := hb6
     obtain ⟨A6, c6, e6⟩ := Kd.R_slice h6
     subst e6
     refine hK.out _ _ (kB L x2) (fun hHeld => ?_)
     clear hK K
     refine norm_ (a' := ?_) ?_ ?_
     rotate_left
     · show Act.put _ (some 28) _ = _; simp only [Act.put, List.setIfInBounds_toArray, List.set, i64_w, i32_w]; rfl
     exact norm_ (by simp only [putAll, Act.put, List.setIfInBounds_toArray, List.set]) (hCont (W2.heap.size + 1, (A6, c6), W2.heap.size) _ ⟨h6, (by simpa using h7), L⟩)
 rintro ⟨b3, ⟨A6, c6⟩, b7⟩ w7 ⟨h6, h7, L⟩
 simp only at h6 h7
 have hHeld : w7.cell? ⟨w.heap.size, 2, none⟩ = some (.slice rA lr.length rc) := kB L x2
 refine norm_ (a' := ?_) ?_ ?_
 rotate_left
 · simp only [putAll, Act.put, List.setIfInBounds_toArray, List.set]
   rfl
 refine one_ (i := 5) (N := some 30) #[vT,vT,vT,vT,vT,vT,vT,vT,vT,vF,vF,vF] rfl rfl (by kernel_rfl) (by decide) (fun K hK => ?_)
 refine Kd.R_append_rows_step (Kd.int .u64) (Rr := (Kd.int .u64).K _) (w0 := W2) W2.heap.size (by rfl) (.tmp 28) (.tmp 29) 23 52 (.int .u64 0) 8 rfl Tryz.underlying23 Clone.inf52 rfl (by decide) (by omega) _ lr [77] _ _ _ (fun _ => True) (fun _ => False) rfl rfl h6 (one_C h7) (fun _ _ h => h) (fun _ h => h.elim) (fun _ _ => trivial) L (below_size L) (by have := HLlr.out; omega) ?_
 intro v8 w8_2 h8 hb8 _ _
 have L := hb8
 obtain ⟨A8_2, c8_2, e8⟩ := Kd.R_slice h8
 rw [List.length_append, List.length_singleton] at e8
 subst e8
 have hc8 : lr.length + 1 ≤ c8_2 := (by have := (Kd.R_reads' h8).2.1; omega)
 have hc9 : lr.length ≤ c8_2 := by omega
 have hd9 : ((lr.length : Int) ≤ (c8_2 : Int)) = True := eq_true (by omega)
 have H8_2 := Aside0.mk h8
 have HC8_2 := Aside0.mk hc8
 clear hb8 h8
 refine hK.out _ _ (kB L x2) (fun hHeld => ?_)
 clear hK K
 refine norm_ (a' := ?_) ?_ ?_
 rotate_left
 · show Act.put _ (some 30) _ = _; simp only [Act.put, List.setIfInBounds_toArray, List.set, i64_w, i32_w]; rfl
 refine pure_ (i := 9) (N := some 34) (v := ?_) (a' := ?_) #[vT,vT,vT,vT,vT,vT,vT,vT,vT,vT,vF,vF] rfl rfl (by kernel_rfl) (fun _ _ _ h => h) (Or.inl ⟨by rfl, ?_⟩) ?_ ?_
 rotate_left
 · intro w'; go_simp; with_reducible rfl
 rotate_left
 · simp only [Act.put, List.setIfInBounds_toArray, List.set, i64_w, i32_w]
   rfl
 refine pure_ (i := 10) (N := some 35) (v := ?_) (a' := ?_) #[vT,vT,vT,vT,vT,vT,vT,vT,vT,vT,vT,vF] rfl rfl (by kernel_rfl) (fun _ _ _ h => h) (Or.inl ⟨by rfl, ?_⟩) ?_ ?_
 rotate_left
 · intro w'; go_simp; with_reducible rfl
 rotate_left
 · simp only [Act.put, List.setIfInBounds_toArray, List.set, i64_w, i32_w]
   rfl
 refine last_ (i := 11) (N := none) #[vT,vT,vT,vT,vT,vT,vT,vT,vT,vT,vT,vT] rfl rfl (by kernel_rfl) (by decide) (fun K hK => ?_)
 have fz := blk_frozen (blk_below HX2.out L) 2
 have fy := blk_cell (blk_below HX2.out L) 2
 simp only [List.getElem?_toArray, List.getElem?_cons_zero, List.getElem?_cons_succ] at fy
 refine skip_ (w1 := ?_) (by rfl) rfl ?_ ?_
 rotate_left
 · go_simp
   rfl
 refine hK.out _ _ ?_
 clear hK K
 refine done_ (by kernel_rfl) ?_
 have hX := blk_below HX2.out L
 have HX3 := Aside0.mk (blk_put (cs' := #[.slice A8_0 lc.length c8_0, .slice A8_1 ld.length c8_1, .slice A8_2 lr.length c8_2, .slice sA ls.length sc, .int .i64 fr, .int .i64 fu]) hX 2 (.slice A8_2 lr.length c8_2) rfl)
 have HB3 := Aside0.mk ((below_step HB2.out L).setCell (p := ⟨w.heap.size, 2, none⟩) (Nat.le_refl _) (.slice A8_2 lr.length c8_2))
 have HZ3 := Aside0.mk (blk_far (blk_below HZ2.out L) (p := ⟨w.heap.size, 2, none⟩) (by show w.heap.size + 1 ≠ w.heap.size; omega) (.slice A8_2 lr.length c8_2))
 have HR2_2 := Aside0.mk (Kd.R_set H8_2.out hX (by decide) 2 (.slice A8_2 lr.length c8_2))
 have HR0_2 := Aside0.mk (Kd.R_set (Kd.R_below HR0_1.out L) hX (by decide) 2 (.slice A8_2 lr.length c8_2))
 have HR1_2 := Aside0.mk (Kd.R_set (Kd.R_below HR1_1.out L) hX (by decide) 2 (.slice A8_2 lr.length c8_2))
 clear HR0_1 HR1_1
 have HS2 := Aside0.mk (below_size HB2.out)
 clear hX L h6 h7 hHeld fz fy x2 HX2 HZ2 H8_2
 generalize (w8_2.setCell ⟨w.heap.size, 2, none⟩ (.slice A8_2 lr.length c8_2)) = W3 at *
 have x3 := blk_cell HX3.out 3
 simp only [List.getElem?_toArray, List.getElem?_cons_zero, List.getElem?_cons_succ] at x3
 go_wp2_with fail
 have L := below_drew1 (Below.refl W3.heap.size W3)
 refine start_ (n := 12) (S := fun w' => w'.cell? ⟨w.heap.size, 3, none⟩ = some (.slice sA ls.length sc)) (ds := [11]) #[vF,vF,vF,vF,vF,vF,vF,vF,vF,vF,vF,vF] (by kernel_rfl) rfl rfl (kB L x3) (fun hHeld => ?_)
 refine pure_ (i := 1) (N := some 37) (v := ?_) (a' := ?_) #[vF,vT,vF,vF,vF,vF,vF,vF,vF,vF,vF,vF] rfl rfl (by kernel_rfl) (fun _ _ _ h => h) (Or.inl ⟨by rfl, ?_⟩) ?_ ?_
 rotate_left
 · intro w'; go_simp; with_reducible rfl
 rotate_left
 · simp only [Act.put, List.setIfInBounds_toArray, List.set, i64_w, i32_w]
   rfl
 refine pure_ (i := 6) (N := some 42) (v := ?_) (a' := ?_) #[vF,vT,vF,vF,vF,vF,vT,vF,vF,vF,vF,vF] rfl rfl (by kernel_rfl) (fun _ _ _ h => h) (Or.inl ⟨by rfl, ?_⟩) ?_ ?_
 rotate_left
 · intro w'; go_simp; with_reducible rfl
 rotate_left
 · simp only [Act.put, List.setIfInBounds_toArray, List.set, i64_w, i32_w]
   rfl
 refine take_ (i := 2) (N := some 38) (v := ?_) (a' := ?_) #[vF,vT,vT,vF,vF,vF,vT,vF,vF,vF,vF,vF] rfl rfl (by kernel_rfl) (fun _ _ _ h => h) (Or.inl ⟨by rfl, ?_⟩) hHeld ?_ ?_
 rotate_left
 · intro w' s0
   go_simp
   with_reducible rfl
 rotate_left
 · simp only [Act.put, List.setIfInBounds_toArray, List.set, i64_w, i32_w]
   rfl
 refine take_ (i := 7) (N := some 43) (v := ?_) (a' := ?_) #[vF,vT,vT,vF,vF,vF,vT,vT,vF,vF,vF,vF] rfl rfl (by kernel_rfl) (fun _ _ _ h => h) (Or.inl ⟨by rfl, ?_⟩) hHeld ?_ ?_
 rotate_left
 · intro w' s0
   go_simp
   with_reducible rfl
 rotate_left
 · simp only [Act.put, List.setIfInBounds_toArray, List.set, i64_w, i32_w]
   rfl
 refine pure_ (i := 8) (N := some 44) (v := ?_) (a' := ?_) #[vF,vT,vT,vF,vF,vF,vT,vT,vT,vF,vF,vF] rfl rfl (by kernel_rfl) (fun _ _ _ h => h) (Or.inl ⟨by rfl, ?_⟩) ?_ ?_
 rotate_left
 · intro w'; go_simp; with_reducible rfl
 rotate_left
 · simp only [Act.put, List.setIfInBounds_toArray, List.set, i64_w, i32_w]
   rfl
 refine join_ (σ := Nat × (Option Addr × Nat) × Nat) 4 #[vT,vT,vT,vT,vT,vF,vT,vT,vT,vF,vF,vF] (fun s => [(36, Value.slice (some ⟨s.1, 0, none⟩) 0 0), (39, Value.slice s.2.1.1 ls.length s.2.1.2), (40, Value.slice (some ⟨s.2.2, 0, none⟩) 1 1)]) (fun s w' => Kd.R (Kd.int .u8) 5 w' W3.heap.size (fun _ => True) (.slice s.2.1.1 ls.length s.2.1.2) ls ∧ w'.heap[s.2.2]? = some (.cells #[.int .u8 77] 5 (0, 0)) ∧ Below W3.heap.size W3 w') ?_ ?_
 rotate_left
 · intro hCont
   refine two_ (i := 0) (j := 4) (Ni := some 36) (Nj := some 40) #[vT,vT,vT,vF,vF,vF,vT,vT,vT,vF,vF,vF] #[vF,vT,vT,vF,vT,vF,vT,vT,vT,vF,vF,vF] rfl rfl rfl rfl (by kernel_rfl) (by decide) (by decide) (fun K hK => ?_) (fun K hK => ?_)
   · skip
     refine value_ (w1 := ?_) (v := ?_) (by rfl) rfl ?_ ?_
     rotate_left 2
     · go_simp
       constructor
       · rfl
       · rfl
     have hn := lit0 .u8 5 W3.drew W3.heap.size (Nat.le_refl _)
     have L := below_alloc L (.cells #[] 5)
     refine hK.out _ _ (kB L x3) (fun hHeld => ?_)
     clear hK K
     refine norm_ (a' := ?_) ?_ ?_
     rotate_left
     · show Act.put _ (some 36) _ = _; simp only [Act.put, List.setIfInBounds_toArray, List.set, i64_w, i32_w]; rfl
     refine two_ (i := 3) (j := 4) (Ni := some 39) (Nj := some 40) #[vT,vT,vT,vT,vF,vF,vT,vT,vT,vF,vF,vF] #[vT,vT,vT,vF,vT,vF,vT,vT,vT,vF,vF,vF] rfl rfl rfl rfl (by kernel_rfl) (by decide) (by decide) (fun K hK => ?_) (fun K hK => ?_)
     · skip
       refine Kd.R_append_rows_step (Kd.int .u8) (Rr := (Kd.int .u8).K _) (w0 := W3) W3.heap.size (by rfl) (.tmp 36) (.tmp 38) 22 5 (.int .u8 0) 1 rfl Tryz.underlying22 Clone.inf5 rfl (by decide) (by omega) (.slice (some ⟨W3.heap.size, 0, none⟩) 0 0) [] ls _ _ _ (fun _ => True) (fun _ => False) rfl rfl hn (Kd.C_below Hls.out (below_step HB3.out L)) (fun _ _ h => h) (fun _ h => h.elim) (fun _ _ => trivial) L (below_size L) (by simp only [List.length_nil]; have := HLls.out; omega) ?_
       intro v6 w6 h6 hb6 hg6 _
       rw [List.nil_append] at h6
       have L := hb6
       obtain ⟨A6, c6, e6⟩ := Kd.R_slice h6
       subst e6
       refine hK.out _ _ (kB L x3) (fun hHeld => ?_)
       clear hK K
       refine norm_ (a' := ?_) ?_ ?_
       rotate_left
       · show Act.put _ (some 39) _ = _; simp only [Act.put, List.setIfInBounds_toArray, List.set, i64_w, i32_w]; rfl
       refine one_ (i := 4) (N := some 40) #[vT,vT,vT,vT,vT,vF,vT,vT,vT,vF,vF,vF] rfl rfl (by kernel_rfl) (by decide) (fun K hK => ?_)
       refine value_ (w1 := ?_) (v := ?_) (by rfl) rfl ?_ ?_
       rotate_left 2
       · go_simp
         constructor
         · rfl
         · rfl
       have h7 := blk_new w6 (.cells #[.int .u8 77] 5)
       have h6 := Kd.R_alloc h6 (.cells #[.int .u8 77] 5)
       have L := below_alloc L (.cells #[.int .u8 77] 5)
       refine hK.out _ _ (kB L x3) (fun hHeld => ?_)
       clear hK K
       refine norm_ (a' := ?_) ?_ ?_
       rotate_left
       · show Act.put _ (some 40) _ = _; simp only [Act.put, List.setIfInBounds_toArray, List.set, i64_w, i32_w]; rfl
       exact norm_ (by simp only [putAll, Act.put, List.setIfInBounds_toArray, List.set]) (hCont (W3.heap.size, (A6, c6), w6.heap.size) _ ⟨h6, (by simpa using h7), L⟩)
     · skip
       refine value_ (w1 := ?_) (v := ?_) (by rfl) rfl ?_ ?_
       rotate_left 2
       · go_simp
         constructor
         · rfl
         · rfl
       have h7 := blk_new (W3.drew.alloc (.cells #[] 5)) (.cells #[.int .u8 77] 5)
       have hn := Kd.R_alloc hn (.cells #[.int .u8 77] 5)
       have L := below_alloc L (.cells #[.int .u8 77] 5)
       refine hK.out _ _ (kB L x3) (fun hHeld => ?_)
       clear hK K
       refine norm_ (a' := ?_) ?_ ?_
       rotate_left
       · show Act.put _ (some 40) _ = _; simp only [Act.put, List.setIfInBounds_toArray, List.set, i64_w, i32_w]; rfl
       refine one_ (i := 3) (N := some 39) #[vT,vT,vT,vT,vT,vF,vT,vT,vT,vF,vF,vF] rfl rfl (by kernel_rfl) (by decide) (fun K hK => ?_)
       refine Kd.R_append_rows_step (Kd.int .u8) (Rr := (Kd.int .u8).K _) (w0 := W3) W3.heap.size (by rfl) (.tmp 36) (.tmp 38) 22 5 (.int .u8 0) 1 rfl Tryz.underlying22 Clone.inf5 rfl (by decide) (by omega) (.slice (some ⟨W3.heap.size, 0, none⟩) 0 0) [] ls _ _ _ (fun _ => True) (fun _ => False) rfl rfl hn (Kd.C_below Hls.out (below_step HB3.out L)) (fun _ _ h => h) (fun _ h => h.elim) (fun _ _ => trivial) L (below_size L) (by simp only [List.length_nil]; have := HLls.out; omega) ?_
       intro v6 w6 h6 hb6 hg6 _
       rw [List.nil_append] at h6
       have h7 := blk_grown h7 hg6 (by simp [Value.ownBlock])
       have L := hb6
       obtain ⟨A6, c6, e6⟩ := Kd.R_slice h6
       subst e6
       refine hK.out _ _ (kB L x3) (fun hHeld => ?_)
       clear hK K
       refine norm_ (a' := ?_) ?_ ?_
       rotate_left
       · show Act.put _ (some 39) _ = _; simp only [Act.put, List.setIfInBounds_toArray, List.set, i64_w, i32_w]; rfl
       exact norm_ (by simp only [putAll, Act.put, List.setIfInBounds_toArray, List.set]) (hCont (W3.heap.size, (A6, c6), W3.heap.size + 1) _ ⟨h6, (by simpa using h7), L⟩)
   · skip
     refine value_ (w1 := ?_) (v := ?_) (by rfl) rfl ?_ ?_
     rotate_left 2
     · go_simp
       constructor
       · rfl
       · rfl
     have h7 := blk_new W3.drew (.cells #[.int .u8 77] 5)
     have L := below_alloc L (.cells #[.int .u8 77] 5)
     refine hK.out _ _ (kB L x3) (fun hHeld => ?_)
     clear hK K
     refine norm_ (a' := ?_) ?_ ?_
     rotate_left
     · show Act.put _ (some 40) _ = _; simp only [Act.put, List.setIfInBounds_toArray, List.set, i64_w, i32_w]; rfl
     refine one_ (i := 0) (N := some 36) #[vT,vT,vT,vF,vT,vF,vT,vT,vT,vF,vF,vF] rfl rfl (by kernel_rfl) (by decide) (fun K hK => ?_)
     refine value_ (w1 := ?_) (v := ?_) (by rfl) rfl ?_ ?_
     rotate_left 2
     · go_simp
       constructor
       · rfl
       · rfl
     have hn : Kd.R (Kd.int .u8) 5 _ W3.heap.size (fun _ => True) (.slice (some ⟨W3.heap.size + 1, 0, none⟩) 0 0) [] := (by have h := lit0 .u8 5 (W3.drew.alloc (.cells #[.int .u8 77] 5)) W3.heap.size (below_size L); rw [World.size_alloc] at h; exact h)
     have h7 := blk_alloc_ h7 (.cells #[] 5)
     have L := below_alloc L (.cells #[] 5)
     refine hK.out _ _ (kB L x3) (fun hHeld => ?_)
     clear hK K
     refine norm_ (a' := ?_) ?_ ?_
     rotate_left
     · show Act.put _ (some 36) _ = _; simp only [Act.put, List.setIfInBounds_toArray, List.set, i64_w, i32_w]; rfl
     refine one_ (i := 3) (N := some 39) #[vT,vT,vT,vT,vT,vF,vT,vT,vT,vF,vF,vF] rfl rfl (by kernel_rfl) (by decide) (fun K hK => ?_)
     refine Kd.R_append_rows_step (Kd.int .u8) (Rr := (Kd.int .u8).K _) (w0 := W3) W3.heap.size (by rfl) (.tmp 36) (.tmp 38) 22 5 (.int .u8 0) 1 rfl Tryz.underlying22 Clone.inf5 rfl (by decide) (by omega) (.slice (some ⟨W3.heap.size + 1, 0, none⟩) 0 0) [] ls _ _ _ (fun _ => True) (fun _ => False) rfl rfl hn (Kd.C_below Hls.out (below_step HB3.out L)) (fun _ _ h => h) (fun _ h => h.elim) (fun _ _ => trivial) L (below_size L) (by simp only [List.length_nil]; have := HLls.out; omega) ?_
     intro v6 w6 h6 hb6 hg6 _
     rw [List.nil_append] at h6
     have h7 := blk_grown h7 hg6 (by simp [Value.ownBlock])
     have L := hb6
     obtain ⟨A6, c6, e6⟩ := Kd.R_slice h6
     subst e6
     refine hK.out _ _ (kB L x3) (fun hHeld => ?_)
     clear hK K
     refine norm_ (a' := ?_) ?_ ?_
     rotate_left
     · show Act.put _ (some 39) _ = _; simp only [Act.put, List.setIfInBounds_toArray, List.set, i64_w, i32_w]; rfl
     exact norm_ (by simp only [putAll, Act.put, List.setIfInBounds_toArray, List.set]) (hCont (W3.heap.size + 1, (A6, c6), W3.heap.size) _ ⟨h6, (by simpa using h7), L⟩)
 rintro ⟨b3, ⟨A6, c6⟩, b7⟩ w7 ⟨h6, h7, L⟩
 simp only at h6 h7
 have hHeld : w7.cell? ⟨w.heap.size, 3, none⟩ = some (.slice sA ls.length sc) := kB L x3
 refine norm_ (a' := ?_) ?_ ?_
 rotate_left
 · simp only [putAll, Act.put, List.setIfInBounds_toArray, List.set]
   rfl
 refine one_ (i := 5) (N := some 41) #[vT,vT,vT,vT,vT,vT,vT,vT,vT,vF,vF,vF] rfl rfl (by kernel_rfl) (by decide) (fun K hK => ?_)
 refine Kd.R_append_rows_step (Kd.int .u8) (Rr := (Kd.int .u8).K _) (w0 := W3) W3.heap.size (by rfl) (.tmp 39) (.tmp 40) 22 5 (.int .u8 0) 1 rfl Tryz.underlying22 Clone.inf5 rfl (by decide) (by omega) _ ls [77] _ _ _ (fun _ => True) (fun _ => False) rfl rfl h6 (one_C h7) (fun _ _ h => h) (fun _ h => h.elim) (fun _ _ => trivial) L (below_size L) (by have := HLls.out; omega) ?_
 intro v8 w8_3 h8 hb8 _ _
 have L := hb8
 obtain ⟨A8_3, c8_3, e8⟩ := Kd.R_slice h8
 rw [List.length_append, List.length_singleton] at e8
 subst e8
 have hc8 : ls.length + 1 ≤ c8_3 := (by have := (Kd.R_reads' h8).2.1; omega)
 have hc9 : ls.length ≤ c8_3 := by omega
 have hd9 : ((ls.length : Int) ≤ (c8_3 : Int)) = True := eq_true (by omega)
 have H8_3 := Aside0.mk h8
 have HC8_3 := Aside0.mk hc8
 clear hb8 h8
 refine hK.out _ _ (kB L x3) (fun hHeld => ?_)
 clear hK K
 refine norm_ (a' := ?_) ?_ ?_
 rotate_left
 · show Act.put _ (some 41) _ = _; simp only [Act.put, List.setIfInBounds_toArray, List.set, i64_w, i32_w]; rfl
 refine pure_ (i := 9) (N := some 45) (v := ?_) (a' := ?_) #[vT,vT,vT,vT,vT,vT,vT,vT,vT,vT,vF,vF] rfl rfl (by kernel_rfl) (fun _ _ _ h => h) (Or.inl ⟨by rfl, ?_⟩) ?_ ?_
 rotate_left
 · intro w'; go_simp; with_reducible rfl
 rotate_left
 · simp only [Act.put, List.setIfInBounds_toArray, List.set, i64_w, i32_w]
   rfl
 refine pure_ (i := 10) (N := some 46) (v := ?_) (a' := ?_) #[vT,vT,vT,vT,vT,vT,vT,vT,vT,vT,vT,vF] rfl rfl (by kernel_rfl) (fun _ _ _ h => h) (Or.inl ⟨by rfl, ?_⟩) ?_ ?_
 rotate_left
 · intro w'; go_simp; with_reducible rfl
 rotate_left
 · simp only [Act.put, List.setIfInBounds_toArray, List.set, i64_w, i32_w]
   rfl
 refine last_ (i := 11) (N := none) #[vT,vT,vT,vT,vT,vT,vT,vT,vT,vT,vT,vT] rfl rfl (by kernel_rfl) (by decide) (fun K hK => ?_)
 have fz := blk_frozen (blk_below HX3.out L) 3
 have fy := blk_cell (blk_below HX3.out L) 3
 simp only [List.getElem?_toArray, List.getElem?_cons_zero, List.getElem?_cons_succ] at fy
 refine skip_ (w1 := ?_) (by rfl) rfl ?_ ?_
 rotate_left
 · go_simp
   rfl
 refine hK.out _ _ ?_
 clear hK K
 refine done_ (by kernel_rfl) ?_
 have hX := blk_below HX3.out L
 have HX4 := Aside0.mk (blk_put (cs' := #[.slice A8_0 lc.length c8_0, .slice A8_1 ld.length c8_1, .slice A8_2 lr.length c8_2, .slice A8_3 ls.length c8_3, .int .i64 fr, .int .i64 fu]) hX 3 (.slice A8_3 ls.length c8_3) rfl)
 have HB4 := Aside0.mk ((below_step HB3.out L).setCell (p := ⟨w.heap.size, 3, none⟩) (Nat.le_refl _) (.slice A8_3 ls.length c8_3))
 have HZ4 := Aside0.mk (blk_far (blk_below HZ3.out L) (p := ⟨w.heap.size, 3, none⟩) (by show w.heap.size + 1 ≠ w.heap.size; omega) (.slice A8_3 ls.length c8_3))
 have HR3_3 := Aside0.mk (Kd.R_set H8_3.out hX (by decide) 3 (.slice A8_3 ls.length c8_3))
 have HR0_3 := Aside0.mk (Kd.R_set (Kd.R_below HR0_2.out L) hX (by decide) 3 (.slice A8_3 ls.length c8_3))
 have HR1_3 := Aside0.mk (Kd.R_set (Kd.R_below HR1_2.out L) hX (by decide) 3 (.slice A8_3 ls.length c8_3))
 have HR2_3 := Aside0.mk (Kd.R_set (Kd.R_below HR2_2.out L) hX (by decide) 3 (.slice A8_3 ls.length c8_3))
 clear HR0_2 HR1_2 HR2_2
 have HS3 := Aside0.mk (below_size HB3.out)
 clear hX L h6 h7 hHeld fz fy x3 HX3 HZ3 H8_3
 generalize (w8_3.setCell ⟨w.heap.size, 3, none⟩ (.slice A8_3 ls.length c8_3)) = W4 at *
 have x0 := blk_cell HX4.out 0
 have x1 := blk_cell HX4.out 1
 have x2 := blk_cell HX4.out 2
 have x3 := blk_cell HX4.out 3
 have x4 := blk_cell HX4.out 4
 have x5 := blk_cell HX4.out 5
 have z0 := blk_cell HZ4.out 0
 have f0 := blk_frozen HZ4.out 0
 have z1 := blk_cell HZ4.out 1
 have f1 := blk_frozen HZ4.out 1
 have z2 := blk_cell HZ4.out 2
 have f2 := blk_frozen HZ4.out 2
 have z3 := blk_cell HZ4.out 3
 have f3 := blk_frozen HZ4.out 3
 have z4 := blk_cell HZ4.out 4
 have f4 := blk_frozen HZ4.out 4
 have z5 := blk_cell HZ4.out 5
 have f5 := blk_frozen HZ4.out 5
 simp only [List.getElem?_toArray, List.getElem?_cons_zero, List.getElem?_cons_succ] at x0 z0 x1 z1 x2 z2 x3 z3 x4 z4 x5 z5
 go_wp2_with fail
 have b0_ := HZ4.out
 have g0_ := HB4.out
 have r0_0 := HR0_3.out
 have r1_0 := HR1_3.out
 have r2_0 := HR2_3.out
 have r3_0 := HR3_3.out
 have b1_ := blk_put (cs' := #[.slice A8_0 lc.length c8_0, .slice none 0 0, .slice none 0 0, .slice none 0 0, .int .i64 0, .int .i64 0]) b0_ 0 (.slice A8_0 lc.length c8_0) rfl
 have r0_1 := Kd.R_set r0_0 b0_ (by decide) 0 (.slice A8_0 lc.length c8_0)
 have r1_1 := Kd.R_set r1_0 b0_ (by decide) 0 (.slice A8_0 lc.length c8_0)
 have r2_1 := Kd.R_set r2_0 b0_ (by decide) 0 (.slice A8_0 lc.length c8_0)
 have r3_1 := Kd.R_set r3_0 b0_ (by decide) 0 (.slice A8_0 lc.length c8_0)
 have g1_ := g0_.setCell (p := ⟨w.heap.size + 1, 0, none⟩) (Nat.le_succ _) (.slice A8_0 lc.length c8_0)
 have b2_ := blk_put (cs' := #[.slice A8_0 lc.length c8_0, .slice A8_1 ld.length c8_1, .slice none 0 0, .slice none 0 0, .int .i64 0, .int .i64 0]) b1_ 1 (.slice A8_1 ld.length c8_1) rfl
 have r0_2 := Kd.R_set r0_1 b1_ (by decide) 1 (.slice A8_1 ld.length c8_1)
 have r1_2 := Kd.R_set r1_1 b1_ (by decide) 1 (.slice A8_1 ld.length c8_1)
 have r2_2 := Kd.R_set r2_1 b1_ (by decide) 1 (.slice A8_1 ld.length c8_1)
 have r3_2 := Kd.R_set r3_1 b1_ (by decide) 1 (.slice A8_1 ld.length c8_1)
 have g2_ := g1_.setCell (p := ⟨w.heap.size + 1, 1, none⟩) (Nat.le_succ _) (.slice A8_1 ld.length c8_1)
 have b3_ := blk_put (cs' := #[.slice A8_0 lc.length c8_0, .slice A8_1 ld.length c8_1, .slice A8_2 lr.length c8_2, .slice none 0 0, .int .i64 0, .int .i64 0]) b2_ 2 (.slice A8_2 lr.length c8_2) rfl
 have r0_3 := Kd.R_set r0_2 b2_ (by decide) 2 (.slice A8_2 lr.length c8_2)
 have r1_3 := Kd.R_set r1_2 b2_ (by decide) 2 (.slice A8_2 lr.length c8_2)
 have r2_3 := Kd.R_set r2_2 b2_ (by decide) 2 (.slice A8_2 lr.length c8_2)
 have r3_3 := Kd.R_set r3_2 b2_ (by decide) 2 (.slice A8_2 lr.length c8_2)
 have g3_ := g2_.setCell (p := ⟨w.heap.size + 1, 2, none⟩) (Nat.le_succ _) (.slice A8_2 lr.length c8_2)
 have b4_ := blk_put (cs' := #[.slice A8_0 lc.length c8_0, .slice A8_1 ld.length c8_1, .slice A8_2 lr.length c8_2, .slice A8_3 ls.length c8_3, .int .i64 0, .int .i64 0]) b3_ 3 (.slice A8_3 ls.length c8_3) rfl
 have r0_4 := Kd.R_set r0_3 b3_ (by decide) 3 (.slice A8_3 ls.length c8_3)
 have r1_4 := Kd.R_set r1_3 b3_ (by decide) 3 (.slice A8_3 ls.length c8_3)
 have r2_4 := Kd.R_set r2_3 b3_ (by decide) 3 (.slice A8_3 ls.length c8_3)
 have r3_4 := Kd.R_set r3_3 b3_ (by decide) 3 (.slice A8_3 ls.length c8_3)
 have g4_ := g3_.setCell (p := ⟨w.heap.size + 1, 3, none⟩) (Nat.le_succ _) (.slice A8_3 ls.length c8_3)
 have b5_ := blk_put (cs' := #[.slice A8_0 lc.length c8_0, .slice A8_1 ld.length c8_1, .slice A8_2 lr.length c8_2, .slice A8_3 ls.length c8_3, .int .i64 fr, .int .i64 0]) b4_ 4 (.int .i64 fr) rfl
 have r0_5 := Kd.R_set r0_4 b4_ (by decide) 4 (.int .i64 fr)
 have r1_5 := Kd.R_set r1_4 b4_ (by decide) 4 (.int .i64 fr)
 have r2_5 := Kd.R_set r2_4 b4_ (by decide) 4 (.int .i64 fr)
 have r3_5 := Kd.R_set r3_4 b4_ (by decide) 4 (.int .i64 fr)
 have g5_ := g4_.setCell (p := ⟨w.heap.size + 1, 4, none⟩) (Nat.le_succ _) (.int .i64 fr)
 have b6_ := blk_put (cs' := #[.slice A8_0 lc.length c8_0, .slice A8_1 ld.length c8_1, .slice A8_2 lr.length c8_2, .slice A8_3 ls.length c8_3, .int .i64 fr, .int .i64 fu]) b5_ 5 (.int .i64 fu) rfl
 have r0_6 := Kd.R_set r0_5 b5_ (by decide) 5 (.int .i64 fu)
 have r1_6 := Kd.R_set r1_5 b5_ (by decide) 5 (.int .i64 fu)
 have r2_6 := Kd.R_set r2_5 b5_ (by decide) 5 (.int .i64 fu)
 have r3_6 := Kd.R_set r3_5 b5_ (by decide) 5 (.int .i64 fu)
 have g6_ := g5_.setCell (p := ⟨w.heap.size + 1, 5, none⟩) (Nat.le_succ _) (.int .i64 fu)
 refine bodyPost_ret (EOut.results_c (fn := Tryz.f12) (p := 2) (ty := 25) rfl _ _ (w.heap.size + 1) 25 #[.slice A8_0 lc.length c8_0, .slice A8_1 ld.length c8_1, .slice A8_2 lr.length c8_2, .slice A8_3 ls.length c8_3, .int .i64 fr, .int .i64 fu] (0, 0) _ rfl b6_ Tryz.underlying25 rfl (by kernel_rfl)) rfl ?_
 exact ⟨A8_0, A8_1, A8_2, A8_3, c8_0, c8_1, c8_2, c8_3, W1.heap.size, rfl, Kd.R_lower r0_6 HS0.out, r1_6, HK.out, HS1.out, Kd.R_lower r2_6 HS2.out, Kd.R_lower r3_6 HS3.out, g6_⟩
end Go.Proofs.YtcgkgaibomcheaaGreat.Lent
end
section
namespace Go.Proofs.YtcgkgaibomcheaaGreat.PRvemuRuns
open Go.RowKit YtcgkgaibomcheaaGreatW.PrintWords YtcgkgaibomcheaaGreatW.PrintLast YtcgkgaibomcheaaGreatW.PrintMore
attribute [local go_sem] max2_int min2_int max_two min_two max_three min_three max_four min_four
theorem eqA54 (d : Nat) (w : World) (x0 y0 : Bool) (x1 y1 : Int) (x2 y2 : Int) :
 (Op.equalIn (d + 2) 54 (.agg #[.bool x0, .int .u64 x1, .int .i64 x2]) (.agg #[.bool y0, .int .u64 y1, .int .i64 y2])).run Tryz.prog w = .ok (x0 == y0 && (x1 == y1 && (x2 == y2))) w := by
 refine eqA_of Tryz.underlying54 (by kernel_rfl) ?_
 refine eqf_cons (by rfl) (by go_simp; rfl) (by go_simp; rfl) (by go_simp) ?_
 refine eqf_cons (by rfl) (by go_simp; rfl) (by go_simp; rfl) (by go_simp) ?_
 exact eqf_last (by rfl) (by go_simp; rfl) (by go_simp; rfl) (by go_simp)
end Go.Proofs.YtcgkgaibomcheaaGreat.PRvemuRuns
end
section
namespace Go.Proofs.YtcgkgaibomcheaaGreat.SameH
open Go.RowKit Bits Mb Rd RDec PRvemuRuns YtcgkgaibomcheaaGreatW.PrintWords YtcgkgaibomcheaaGreatW.PrintLast YtcgkgaibomcheaaGreatW.PrintMore
attribute [local go_sem high] eqA54
theorem at_num {k : IntKind} {w : World} {A : Option Addr} {n : Nat} {L : List Int} (h : (Kd.int k).C w A n L) (i : Nat) (hi : i < n) : ∃ ad, A = some ad ∧ w.cell? (ad.add i) = some (.int k (L.getD i 0)) := by
 obtain ⟨ad, c, e, _, hK, hc⟩ := Kd.C_get h 0 (i : Int) (by omega) (by omega)
 have hK' : c = [.int k (L.getD i 0)] := hK
 subst hK'
 have := hc 0 _ rfl
 refine ⟨ad, e, ?_⟩
 have e2 : (i : Int).toNat * (Kd.int k).sz + 0 = i := by
  show (i : Int).toNat * 1 + 0 = i
  omega
 rw [e2] at this
 exact this
set_option maxRecDepth 20000 in
set_option maxHeartbeats 1000000 in
theorem same_yes (e a s : Int) (A A' B B' : Option Addr) (c c' d d' : Nat) (L : List Int) (T : List S54) (w : World) (h1 : (Kd.int .u64).C w A L.length L) (h2 : (Kd.int .u64).C w A' L.length L) (h3 : k54.C w B T.length T) (h4 : k54.C w B' T.length T) (hL : L.length ≤ 1000000) (hT : T.length ≤ 1000000) :
 Calls Tryz.prog 14 #[.agg #[.int .i64 e, .int .i64 a, .int .i64 s, .slice A L.length c, .slice B T.length d], .agg #[.int .i64 e, .int .i64 a, .int .i64 s, .slice A' L.length c', .slice B' T.length d']] w fun ee w' => ee = .returned (.bool true) ∧ Below w.heap.size w w' := by
 have hu31 := Tryz.underlying31
 have hu54 := Tryz.underlying54
 have H1 := Aside0.mk h1
 have H2 := Aside0.mk h2
 have H3 := Aside0.mk h3
 have H4 := Aside0.mk h4
 have HL := Aside0.mk hL
 have HT := Aside0.mk hT
 clear h1 h2 h3 h4 hL hT
 have HB := Aside0.mk (below_alloc (below_alloc (Below.refl w.heap.size w) (.cells #[.int .i64 e, .int .i64 a, .int .i64 s, .slice A L.length c, .slice B T.length d] 31)) (.cells #[.int .i64 e, .int .i64 a, .int .i64 s, .slice A' L.length c', .slice B' T.length d'] 31))
 have HA1 := Aside0.mk (blk_below (blk_new w (.cells #[.int .i64 e, .int .i64 a, .int .i64 s, .slice A L.length c, .slice B T.length d] 31)) (below_alloc (Below.refl _ _) (.cells #[.int .i64 e, .int .i64 a, .int .i64 s, .slice A' L.length c', .slice B' T.length d'] 31)))
 have HA2 := Aside0.mk (blk_new (w.alloc (.cells #[.int .i64 e, .int .i64 a, .int .i64 s, .slice A L.length c, .slice B T.length d] 31)) (.cells #[.int .i64 e, .int .i64 a, .int .i64 s, .slice A' L.length c', .slice B' T.length d'] 31))
 simp only [World.size_alloc] at HA2
 go_enter Tryz.func14, Tryz.ntmps14
 go_wp2_with fail
 generalize ((w.alloc (.cells #[.int .i64 e, .int .i64 a, .int .i64 s, .slice A L.length c, .slice B T.length d] 31)).alloc (.cells #[.int .i64 e, .int .i64 a, .int .i64 s, .slice A' L.length c', .slice B' T.length d'] 31)) = W0 at *
 go_loopw [5] (fun v5 W => ∃ i : Nat, v5 = .int .i64 (i : Int) ∧ i ≤ L.length ∧ Aside0 (Below W0.heap.size W0 W)) (fun v5 _ => L.length - (intOf v5).toNat)
 case atStart => exact ⟨0, rfl, by omega, ⟨Below.refl _ _⟩⟩
 case round =>
  obtain ⟨i, rfl, hi, HW⟩ := hrel
  have x3 := blk_cell (blk_below HA1.out HW.out) 3
  have y3 := blk_cell (blk_below HA2.out HW.out) 3
  simp only [List.getElem?_toArray, List.getElem?_cons_zero, List.getElem?_cons_succ] at x3 y3
  have HBW := Aside0.mk (below_step HB.out HW.out)
  by_cases hlt : i < L.length
  · have t1 : decide ((i : Int) < (L.length : Int)) = true := decide_eq_true (by omega)
    have u1 : ((i : Int) < (L.length : Int)) = True := eq_true (by omega)
    have u2 : (0 ≤ (i : Int)) = True := eq_true (by omega)
    obtain ⟨ad, rfl, z1⟩ := at_num (Kd.C_below H1.out HBW.out) i hlt
    obtain ⟨ad', rfl, z2⟩ := at_num (Kd.C_below H2.out HBW.out) i hlt
    have HI := Aside0.mk hlt
    clear hlt
    go_wp2_with fail
    refine start_ (n := 11) (S := fun w' => w'.cell? ⟨w.heap.size, 3, none⟩ = some (.slice (some ad) L.length c) ∧ w'.cell? ⟨w.heap.size + 1, 3, none⟩ = some (.slice (some ad') L.length c') ∧ w'.cell? (ad.add i) = some (.int .u64 (L.getD i 0)) ∧ w'.cell? (ad'.add i) = some (.int .u64 (L.getD i 0))) (ds := []) #[vF,vF,vF,vF,vF,vF,vF,vF,vF,vF,vF] (by kernel_rfl) rfl rfl ⟨x3, y3, z1, z2⟩ (fun hHeld => ?_)
    refine pure_ (i := 0) (N := some 51) (v := ?_) (a' := ?_) #[vT,vF,vF,vF,vF,vF,vF,vF,vF,vF,vF] rfl rfl (by kernel_rfl) (fun _ _ _ h => h) (Or.inl ⟨by rfl, ?_⟩) ?_ ?_
    rotate_left
    · intro w'; go_simp; with_reducible rfl
    rotate_left
    · simp only [Act.put, List.setIfInBounds_toArray, List.set, i64_w, i32_w]
      rfl
    refine pure_ (i := 2) (N := some 53) (v := ?_) (a' := ?_) #[vT,vF,vT,vF,vF,vF,vF,vF,vF,vF,vF] rfl rfl (by kernel_rfl) (fun _ _ _ h => h) (Or.inl ⟨by rfl, ?_⟩) ?_ ?_
    rotate_left
    · intro w'; go_simp; with_reducible rfl
    rotate_left
    · simp only [Act.put, List.setIfInBounds_toArray, List.set, i64_w, i32_w]
      rfl
    refine pure_ (i := 5) (N := some 56) (v := ?_) (a' := ?_) #[vT,vF,vT,vF,vF,vT,vF,vF,vF,vF,vF] rfl rfl (by kernel_rfl) (fun _ _ _ h => h) (Or.inl ⟨by rfl, ?_⟩) ?_ ?_
    rotate_left
    · intro w'; go_simp; with_reducible rfl
    rotate_left
    · simp only [Act.put, List.setIfInBounds_toArray, List.set, i64_w, i32_w]
      rfl
    refine pure_ (i := 7) (N := some 58) (v := ?_) (a' := ?_) #[vT,vF,vT,vF,vF,vT,vF,vT,vF,vF,vF] rfl rfl (by kernel_rfl) (fun _ _ _ h => h) (Or.inl ⟨by rfl, ?_⟩) ?_ ?_
    rotate_left
    · intro w'; go_simp; with_reducible rfl
    rotate_left
    · simp only [Act.put, List.setIfInBounds_toArray, List.set, i64_w, i32_w]
      rfl
    refine take_ (i := 1) (N := some 52) (v := ?_) (a' := ?_) #[vT,vT,vT,vF,vF,vT,vF,vT,vF,vF,vF] rfl rfl (by kernel_rfl) (fun _ _ _ h => h) (Or.inl ⟨by rfl, ?_⟩) hHeld ?_ ?_
    rotate_left
    · rintro w' ⟨s0, s1, s2, s3⟩; go_simp; with_reducible rfl
    rotate_left
    · simp only [Act.put, List.setIfInBounds_toArray, List.set, i64_w, i32_w]
      rfl
    refine pure_ (i := 3) (N := some 54) (v := ?_) (a' := ?_) #[vT,vT,vT,vT,vF,vT,vF,vT,vF,vF,vF] rfl rfl (by kernel_rfl) (fun _ _ _ h => h) (Or.inl ⟨by rfl, ?_⟩) ?_ ?_
    rotate_left
    · intro w'; go_simp; with_reducible rfl
    rotate_left
    · simp only [Act.put, List.setIfInBounds_toArray, List.set, i64_w, i32_w]
      rfl
    refine take_ (i := 4) (N := some 55) (v := ?_) (a' := ?_) #[vT,vT,vT,vT,vT,vT,vF,vT,vF,vF,vF] rfl rfl (by kernel_rfl) (fun _ _ _ h => h) (Or.inl ⟨by rfl, ?_⟩) hHeld ?_ ?_
    rotate_left
    · rintro w' ⟨s0, s1, s2, s3⟩; go_simp; with_reducible rfl
    rotate_left
    · simp only [Act.put, List.setIfInBounds_toArray, List.set, i64_w, i32_w]
      rfl
    refine take_ (i := 6) (N := some 57) (v := ?_) (a' := ?_) #[vT,vT,vT,vT,vT,vT,vT,vT,vF,vF,vF] rfl rfl (by kernel_rfl) (fun _ _ _ h => h) (Or.inl ⟨by rfl, ?_⟩) hHeld ?_ ?_
    rotate_left
    · rintro w' ⟨s0, s1, s2, s3⟩; go_simp; with_reducible rfl
    rotate_left
    · simp only [Act.put, List.setIfInBounds_toArray, List.set, i64_w, i32_w]
      rfl
    refine pure_ (i := 8) (N := some 59) (v := ?_) (a' := ?_) #[vT,vT,vT,vT,vT,vT,vT,vT,vT,vF,vF] rfl rfl (by kernel_rfl) (fun _ _ _ h => h) (Or.inl ⟨by rfl, ?_⟩) ?_ ?_
    rotate_left
    · intro w'; go_simp; with_reducible rfl
    rotate_left
    · simp only [Act.put, List.setIfInBounds_toArray, List.set, i64_w, i32_w]
      rfl
    refine take_ (i := 9) (N := some 60) (v := ?_) (a' := ?_) #[vT,vT,vT,vT,vT,vT,vT,vT,vT,vT,vF] rfl rfl (by kernel_rfl) (fun _ _ _ h => h) (Or.inl ⟨by rfl, ?_⟩) hHeld ?_ ?_
    rotate_left
    · rintro w' ⟨s0, s1, s2, s3⟩; go_simp; with_reducible rfl
    rotate_left
    · simp only [Act.put, List.setIfInBounds_toArray, List.set, i64_w, i32_w]
      rfl
    refine pure_ (i := 10) (N := some 61) (v := ?_) (a' := ?_) #[vT,vT,vT,vT,vT,vT,vT,vT,vT,vT,vT] rfl rfl (by kernel_rfl) (fun _ _ _ h => h) (Or.inl ⟨by rfl, ?_⟩) ?_ ?_
    rotate_left
    · intro w'; go_simp; with_reducible rfl
    rotate_left
    · simp only [Act.put, List.setIfInBounds_toArray, List.set, i64_w, i32_w]
      rfl
    refine done_ (by kernel_rfl) ?_
    clear hHeld
    go_wp2_with fail
    have hi3 := HI.out
    have hw : wrap64 ((i : Int) + 1) = ((i + 1 : Nat) : Int) := by
     have := HL.out
     unfold wrap64
     omega
    rw [hw]
    exact ⟨⟨i + 1, rfl, by omega, ⟨pw_below_drewN HW.out 1⟩⟩, by simp only [intOf, Int.toNat_natCast]; omega⟩
  · have t1 : decide ((i : Int) < (L.length : Int)) = false := decide_eq_false (by omega)
    have u1 : ((i : Int) < (L.length : Int)) = False := eq_false (by omega)
    clear hlt
    go_wp2_with fail
    clear x3 y3 t1 u1
    have HB1 := HBW
    have HA3 := Aside0.mk (blk_below HA1.out HW.out)
    have HA4 := Aside0.mk (blk_below HA2.out HW.out)
    clear HW HBW HA1 HA2 HB
    generalize wr = W1 at *
    go_loopw [6] (fun v6 W => ∃ k : Nat, v6 = .int .i64 (k : Int) ∧ k ≤ T.length ∧ Aside0 (Below W1.heap.size W1 W)) (fun v6 _ => T.length - (intOf v6).toNat)
    case atStart => exact ⟨0, rfl, by omega, ⟨Below.refl _ _⟩⟩
    case round =>
     obtain ⟨k, rfl, hk, HW⟩ := hrel
     have x3 := blk_cell (blk_below HA3.out HW.out) 4
     have y3 := blk_cell (blk_below HA4.out HW.out) 4
     simp only [List.getElem?_toArray, List.getElem?_cons_zero, List.getElem?_cons_succ] at x3 y3
     have HBW := Aside0.mk (below_step HB1.out HW.out)
     by_cases hlt : k < T.length
     · have t1 : decide ((k : Int) < (T.length : Int)) = true := decide_eq_true (by omega)
       have u1 : ((k : Int) < (T.length : Int)) = True := eq_true (by omega)
       have u2 : (0 ≤ (k : Int)) = True := eq_true (by omega)
       obtain ⟨ad, rfl, z0, z1, z2⟩ := at_T54 (Kd.C_below H3.out HBW.out) (k : Int) (by omega) (by omega)
       obtain ⟨ad', rfl, q0, q1, q2⟩ := at_T54 (Kd.C_below H4.out HBW.out) (k : Int) (by omega) (by omega)
       simp only [Int.toNat_natCast] at z0 z1 z2 q0 q1 q2
       have HI := Aside0.mk hlt
       generalize rd_T54 T (k : Int) = ev at *
       clear hlt
       go_wp2_with fail
       refine start_ (n := 11) (S := fun w' => w'.cell? ⟨w.heap.size, 4, none⟩ = some (.slice (some ad) T.length d) ∧ w'.cell? ⟨w.heap.size + 1, 4, none⟩ = some (.slice (some ad') T.length d') ∧ w'.cell? (ad.add (k * 3)) = some (.bool ev.f0) ∧ w'.cell? ⟨(ad.add (k * 3)).block, (ad.add (k * 3)).off + 1, none⟩ = some (.int .u64 ev.f1) ∧ w'.cell? ⟨(ad.add (k * 3)).block, (ad.add (k * 3)).off + 2, none⟩ = some (.int .i64 ev.f2) ∧ w'.cell? (ad'.add (k * 3)) = some (.bool ev.f0) ∧ w'.cell? ⟨(ad'.add (k * 3)).block, (ad'.add (k * 3)).off + 1, none⟩ = some (.int .u64 ev.f1) ∧ w'.cell? ⟨(ad'.add (k * 3)).block, (ad'.add (k * 3)).off + 2, none⟩ = some (.int .i64 ev.f2)) (ds := []) #[vF,vF,vF,vF,vF,vF,vF,vF,vF,vF,vF] (by kernel_rfl) rfl rfl ⟨x3, y3, z0, z1, z2, q0, q1, q2⟩ (fun hHeld => ?_)
       refine pure_ (i := 0) (N := some 69) (v := ?_) (a' := ?_) #[vT,vF,vF,vF,vF,vF,vF,vF,vF,vF,vF] rfl rfl (by kernel_rfl) (fun _ _ _ h => h) (Or.inl ⟨by rfl, ?_⟩) ?_ ?_
       rotate_left
       · intro w'; go_simp; with_reducible rfl
       rotate_left
       · simp only [Act.put, List.setIfInBounds_toArray, List.set, i64_w, i32_w]
         rfl
       refine pure_ (i := 2) (N := some 71) (v := ?_) (a' := ?_) #[vT,vF,vT,vF,vF,vF,vF,vF,vF,vF,vF] rfl rfl (by kernel_rfl) (fun _ _ _ h => h) (Or.inl ⟨by rfl, ?_⟩) ?_ ?_
       rotate_left
       · intro w'; go_simp; with_reducible rfl
       rotate_left
       · simp only [Act.put, List.setIfInBounds_toArray, List.set, i64_w, i32_w]
         rfl
       refine pure_ (i := 5) (N := some 74) (v := ?_) (a' := ?_) #[vT,vF,vT,vF,vF,vT,vF,vF,vF,vF,vF] rfl rfl (by kernel_rfl) (fun _ _ _ h => h) (Or.inl ⟨by rfl, ?_⟩) ?_ ?_
       rotate_left
       · intro w'; go_simp; with_reducible rfl
       rotate_left
       · simp only [Act.put, List.setIfInBounds_toArray, List.set, i64_w, i32_w]
         rfl
       refine pure_ (i := 7) (N := some 76) (v := ?_) (a' := ?_) #[vT,vF,vT,vF,vF,vT,vF,vT,vF,vF,vF] rfl rfl (by kernel_rfl) (fun _ _ _ h => h) (Or.inl ⟨by rfl, ?_⟩) ?_ ?_
       rotate_left
       · intro w'; go_simp; with_reducible rfl
       rotate_left
       · simp only [Act.put, List.setIfInBounds_toArray, List.set, i64_w, i32_w]
         rfl
       refine take_ (i := 1) (N := some 70) (v := ?_) (a' := ?_) #[vT,vT,vT,vF,vF,vT,vF,vT,vF,vF,vF] rfl rfl (by kernel_rfl) (fun _ _ _ h => h) (Or.inl ⟨by rfl, ?_⟩) hHeld ?_ ?_
       rotate_left
       · rintro w' ⟨s0, s1, s2, s3, s4, s5, s6, s7⟩; go_simp; with_reducible rfl
       rotate_left
       · simp only [Act.put, List.setIfInBounds_toArray, List.set, i64_w, i32_w]
         rfl
       refine pure_ (i := 3) (N := some 72) (v := ?_) (a' := ?_) #[vT,vT,vT,vT,vF,vT,vF,vT,vF,vF,vF] rfl rfl (by kernel_rfl) (fun _ _ _ h => h) (Or.inl ⟨by rfl, ?_⟩) ?_ ?_
       rotate_left
       · intro w'; go_simp; with_reducible rfl
       rotate_left
       · simp only [Act.put, List.setIfInBounds_toArray, List.set, i64_w, i32_w]
         rfl
       refine take_ (i := 4) (N := some 73) (v := ?_) (a' := ?_) #[vT,vT,vT,vT,vT,vT,vF,vT,vF,vF,vF] rfl rfl (by kernel_rfl) (fun _ _ _ h => h) (Or.inl ⟨by rfl, ?_⟩) hHeld ?_ ?_
       rotate_left
       · rintro w' ⟨s0, s1, s2, s3, s4, s5, s6, s7⟩; go_simp; with_reducible rfl
       rotate_left
       · simp only [Act.put, List.setIfInBounds_toArray, List.set, i64_w, i32_w]
         rfl
       refine take_ (i := 6) (N := some 75) (v := ?_) (a' := ?_) #[vT,vT,vT,vT,vT,vT,vT,vT,vF,vF,vF] rfl rfl (by kernel_rfl) (fun _ _ _ h => h) (Or.inl ⟨by rfl, ?_⟩) hHeld ?_ ?_
       rotate_left
       · rintro w' ⟨s0, s1, s2, s3, s4, s5, s6, s7⟩; go_simp; with_reducible rfl
       rotate_left
       · simp only [Act.put, List.setIfInBounds_toArray, List.set, i64_w, i32_w]
         rfl
       refine pure_ (i := 8) (N := some 77) (v := ?_) (a' := ?_) #[vT,vT,vT,vT,vT,vT,vT,vT,vT,vF,vF] rfl rfl (by kernel_rfl) (fun _ _ _ h => h) (Or.inl ⟨by rfl, ?_⟩) ?_ ?_
       rotate_left
       · intro w'; go_simp; with_reducible rfl
       rotate_left
       · simp only [Act.put, List.setIfInBounds_toArray, List.set, i64_w, i32_w]
         rfl
       refine take_ (i := 9) (N := some 78) (v := ?_) (a' := ?_) #[vT,vT,vT,vT,vT,vT,vT,vT,vT,vT,vF] rfl rfl (by kernel_rfl) (fun _ _ _ h => h) (Or.inl ⟨by rfl, ?_⟩) hHeld ?_ ?_
       rotate_left
       · rintro w' ⟨s0, s1, s2, s3, s4, s5, s6, s7⟩; go_simp; with_reducible rfl
       rotate_left
       · simp only [Act.put, List.setIfInBounds_toArray, List.set, i64_w, i32_w]
         rfl
       refine pure_ (i := 10) (N := some 79) (v := ?_) (a' := ?_) #[vT,vT,vT,vT,vT,vT,vT,vT,vT,vT,vT] rfl rfl (by kernel_rfl) (fun _ _ _ h => h) (Or.inl ⟨by rfl, ?_⟩) ?_ ?_
       rotate_left
       · intro w'; go_simp; with_reducible rfl
       rotate_left
       · simp only [Act.put, List.setIfInBounds_toArray, List.set, i64_w, i32_w]
         rfl
       refine done_ (by kernel_rfl) ?_
       clear hHeld
       go_wp2_with fail
       have hi3 := HI.out
       have hw : wrap64 ((k : Int) + 1) = ((k + 1 : Nat) : Int) := by
        have := HT.out
        unfold wrap64
        omega
       rw [hw]
       exact ⟨⟨k + 1, rfl, by omega, ⟨pw_below_drewN HW.out 1⟩⟩, by simp only [intOf, Int.toNat_natCast]; omega⟩
     · have t1 : decide ((k : Int) < (T.length : Int)) = false := decide_eq_false (by omega)
       have u1 : ((k : Int) < (T.length : Int)) = False := eq_false (by omega)
       clear hlt
       go_wp2_with fail
       go_ret
       exact ⟨rfl, HBW.out⟩
end Go.Proofs.YtcgkgaibomcheaaGreat.SameH
end
