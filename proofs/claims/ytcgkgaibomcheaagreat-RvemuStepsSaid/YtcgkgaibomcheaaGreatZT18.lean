/- Joined texts: NewM, NewE, NewR, Pure, Goes, PRvemuRunsx5, HeadP, Clone. Conditions: those of each theorem. -/
import Derived.Test.YtcgkgaibomcheaaGreatZC01
import Derived.Test.YtcgkgaibomcheaaGreatZC17
import Derived.Test.YtcgkgaibomcheaaGreatZC13
import Derived.Test.YtcgkgaibomcheaaGreatZC16
import Derived.Test.YtcgkgaibomcheaaGreatZC03
import Derived.Test.YtcgkgaibomcheaaGreatZC11
import Derived.Test.YtcgkgaibomcheaaGreatZC09
import Derived.Lib.SliceRun
set_option linter.unusedVariables false
set_option linter.unusedSimpArgs false
section
namespace Go.Proofs.YtcgkgaibomcheaaGreat.NewM
open Go.RowKit Bits Mac Mb Rd EM Fill YtcgkgaibomcheaaGreatW.PrintWords YtcgkgaibomcheaaGreatW.PrintLast
def bad (fr : Int) : Prop := fr < 0 ∨ 1048576 < fr
instance (fr : Int) : Decidable (bad fr) := inferInstanceAs (Decidable (_ ∨ _))
def given (lr : List Int) (r : Nat) : BitVec 64 := if r < 32 then BitVec.ofInt 64 (lr.getD r 0) else 0#64
def entry (lr : List Int) (r : Nat) : BitVec 64 := if r = 0 then 0#64 else if r = 1 then 412316860416#64 else if r = 2 then 2147418112#64 else if r = 10 then 65536#64 else given lr r
def bare (lc ld : List Int) (x : Nat → BitVec 64) (fu : Int) : Mac := { code := lc, data := pad ld 64, frame := [], x := x, pc := 4194304#64, fuel := fu, steps := 0, done := false, err := 0, tr := [] }
def newM (lc ld lr ls : List Int) (fr fu : Int) : Mac := if bad fr then { bare lc ld (entry lr) fu with done := true, err := 1 } else { bare lc ld (entry lr) fu with frame := pad ls fr.toNat }
def isWords (l : List Int) : Prop := ∀ x ∈ l, 0 ≤ x ∧ x < 18446744073709551616
theorem U_ofInt {v : Int} (h0 : 0 ≤ v) (h1 : v < 18446744073709551616) : U (BitVec.ofInt 64 v) = v := by
 unfold U
 rw [BitVec.toNat_ofInt]
 omega
theorem U_given {lr : List Int} (h : isWords lr) {r : Nat} (hr : r < 32) : U (given lr r) = lr.getD r 0 := by
 unfold given
 rw [if_pos hr]
 rw [List.getD_eq_getElem?_getD]
 cases he : lr[r]? with
 | none => rfl
 | some y =>
  obtain ⟨hl, hy⟩ := List.getElem?_eq_some_iff.1 he
  have := h y (hy ▸ List.getElem_mem hl)
  exact U_ofInt this.1 this.2
theorem mb_x {T n : Nat} {W : World} {g : Nat} {lc ld : List Int} {x x' : Nat → BitVec 64} {fu : Int} {c d f t q : Value} (h : MB T n W g (vals (bare lc ld x fu) c d f t q)) (r : Nat) (hr : r < 32) (v : Int) (hv : U (x' r) = v) (hx : ∀ k, k < 32 → k ≠ r → x' k = x k) : MB T n (W.setCell ⟨g, 3 + r, none⟩ (.int .u64 v)) g (vals (bare lc ld x' fu) c d f t q) := by
 refine h.put (3 + r) _ _ ?_ fun i hi hne => ?_
 · rw [vals_x _ _ _ _ _ _ _ hr]
   show Value.int .u64 (U (x' r)) = _
   rw [hv]
 · unfold vals
   by_cases h1 : i = 0
   · rw [if_pos h1, if_pos h1]
   rw [if_neg h1, if_neg h1]
   by_cases h2 : i = 1
   · rw [if_pos h2, if_pos h2]
   rw [if_neg h2, if_neg h2]
   by_cases h3 : i = 2
   · rw [if_pos h3, if_pos h3]
   rw [if_neg h3, if_neg h3]
   by_cases h4 : i < 35
   · rw [if_pos h4, if_pos h4]
     show Value.int .u64 (U (x' (i - 3))) = .int .u64 (U (x (i - 3)))
     rw [hx (i - 3) (by omega) (by omega)]
   · rw [if_neg h4, if_neg h4]
     rfl
def setr (x : Nat → BitVec 64) (r : Nat) (v : BitVec 64) : Nat → BitVec 64 := fun k => if k = r then v else x k
theorem entry_setr (lr : List Int) : setr (setr (setr (setr (given lr) 0 0#64) 1 412316860416#64) 2 2147418112#64) 10 65536#64 = entry lr := by
 funext k
 unfold setr entry
 by_cases h0 : k = 0
 · subst h0; rfl
 by_cases h1 : k = 1
 · subst h1; rfl
 by_cases h2 : k = 2
 · subst h2; rfl
 by_cases h10 : k = 10
 · subst h10; rfl
 rw [if_neg h10, if_neg h2, if_neg h1, if_neg h0, if_neg h0, if_neg h1, if_neg h2, if_neg h10]
theorem mb_setr {T n : Nat} {W : World} {g : Nat} {lc ld : List Int} {x : Nat → BitVec 64} {fu : Int} {c d f t q : Value} (h : MB T n W g (vals (bare lc ld x fu) c d f t q)) (r : Nat) (hr : r < 32) (b : BitVec 64) (v : Int) (hv : U b = v) : MB T n (W.setCell ⟨g, 3 + r, none⟩ (.int .u64 v)) g (vals (bare lc ld (setr x r b) fu) c d f t q) :=
 mb_x h r hr v (by unfold setr; rw [if_pos rfl]; exact hv) (fun k _ hk => if_neg hk)
theorem mb_copy {T n : Nat} {W : World} {g : Nat} {lc ld lr : List Int} {fu : Int} {c d f t q : Value} {cells : Array Value} (h0 : ∀ i, i < n → cells[i]? = some (vals (bare lc ld (fun _ => 0#64) fu) c d f t q i)) (hn : 35 ≤ n) (hw : isWords lr)
 (h : W.heap[g]? = some (.cells (splice cells.toList 3 ((lr.take 32).map (Value.int .u64))).toArray T (0, 0))) : MB T n W g (vals (bare lc ld (given lr) fu) c d f t q) := by
 refine ⟨_, h, fun i hi => ?_⟩
 have hm : ((lr.take 32).map (Value.int .u64)).length = Nat.min 32 lr.length := by rw [List.length_map, List.length_take]
 have hm2 : Nat.min 32 lr.length ≤ 32 := Nat.min_le_left _ _
 have hs : n ≤ cells.size := by
  have := (Array.getElem?_eq_some_iff.1 (h0 (n - 1) (by omega))).1
  omega
 have hct : cells.toList.length = cells.size := Array.length_toList
 rw [List.getElem?_toArray]
 unfold splice
 rw [List.getElem?_append]
 have ht : (cells.toList.take 3).length = 3 := by rw [List.length_take, hct]; omega
 rw [ht]
 by_cases h3 : i < 3
 · rw [if_pos h3, List.getElem?_take, if_pos h3, Array.getElem?_toList, h0 i hi]
   unfold vals
   by_cases a : i = 0
   · rw [if_pos a, if_pos a]
   rw [if_neg a, if_neg a]
   by_cases b : i = 1
   · rw [if_pos b, if_pos b]
   rw [if_neg b, if_neg b, if_pos (by omega), if_pos (by omega)]
 · rw [if_neg h3, List.getElem?_append]
   by_cases hl : i - 3 < ((lr.take 32).map (Value.int .u64)).length
   · rw [if_pos hl]
     rw [hm] at hl
     have hl2 : i - 3 < lr.length := Nat.lt_of_lt_of_le hl (Nat.min_le_right _ _)
     rw [List.getElem?_map, List.getElem?_take, if_pos (by omega), List.getElem?_eq_getElem hl2]
     have e : vals (bare lc ld (given lr) fu) c d f t q i = .int .u64 (U (given lr (i - 3))) := by
      have := vals_x (bare lc ld (given lr) fu) c d f t q (i - 3) (by omega)
      rw [show 3 + (i - 3) = i by omega] at this
      exact this
     rw [e, U_given hw (by omega), List.getD_eq_getElem?_getD, List.getElem?_eq_getElem hl2]
     rfl
   · rw [if_neg hl, List.getElem?_drop]
     rw [hm] at hl ⊢
     rw [show 3 + Nat.min 32 lr.length + (i - 3 - Nat.min 32 lr.length) = i by omega, Array.getElem?_toList, h0 i hi]
     congr 1
     unfold vals
     rw [if_neg (show ¬ i = 0 by omega), if_neg (show ¬ i = 0 by omega), if_neg (show ¬ i = 1 by omega), if_neg (show ¬ i = 1 by omega), if_neg (show ¬ i = 2 by omega), if_neg (show ¬ i = 2 by omega)]
     by_cases h4 : i < 35
     · rw [if_pos h4, if_pos h4]
       show Value.int .u64 (U 0#64) = .int .u64 (U (given lr (i - 3)))
       have hge : lr.length ≤ i - 3 := by
        by_cases hlt : 32 ≤ lr.length
        · rw [show Nat.min 32 lr.length = 32 from Nat.min_eq_left hlt] at hl; omega
        · rw [show Nat.min 32 lr.length = lr.length from Nat.min_eq_right (by omega)] at hl; omega
       rw [U_given hw (by omega), List.getD_eq_getElem?_getD, List.getElem?_eq_none hge]
       rfl
     · rw [if_neg h4, if_neg h4]
       rfl
end Go.Proofs.YtcgkgaibomcheaaGreat.NewM
end
section
namespace Go.Proofs.YtcgkgaibomcheaaGreat.NewE
open Go.RowKit Bits Mac Mb Rd EM Fill NewM PRvemuRuns YtcgkgaibomcheaaGreatW.PrintWords YtcgkgaibomcheaaGreatW.PrintLast
structure Pre (B : Nat) (W : World) (g gm : Nat) (c : Value) (gd : Nat) (lc ld : List Int) : Prop where
 code : Kd.R (Kd.int .u8) 5 W B (fun k => k < g) c lc
 data : Row gd (pad ld 64) W
 map : W.heap[gm]? = some (.map (Tab.tab 34) 34)
 hd : B ≤ gd ∧ gd < g
 hm : B ≤ gm ∧ gm < g
 hg : B ≤ g
theorem Pre.step {B : Nat} {W W' : World} {g gm gd : Nat} {c : Value} {lc ld : List Int} (h : Pre B W g gm c gd lc ld) (hb : ∀ k, k < g → W'.heap[k]? = W.heap[k]?) : Pre B W' g gm c gd lc ld where
 code := Kd.R_mono (Kd.R_step h.code (fun k hk _ => hb k hk)) (fun k hk => hk)
 data := h.data.of (hb gd h.hd.2)
 map := (hb gm h.hm.2).trans h.map
 hd := h.hd
 hm := h.hm
 hg := h.hg
def Out (B : Nat) (W : World) (g gm : Nat) (c d f : Value) (m : Mac) : Prop := ME W g m c d f (.slice none 0 0) gm ∧ CodeAt W (fun k => k < B ∨ k = g ∨ some k = f.ownBlock) c m.code ∧ ∀ k, k = g ∨ k = gm ∨ some k = d.ownBlock ∨ some k = f.ownBlock → B ≤ k
theorem out {B : Nat} {W : World} {g gm gd cd : Nat} {c f : Value} {m : Mac} {ld : List Int} (h : Pre B W g gm c gd m.code ld) (hcd : 64 ≤ cd) (hm : MB 74 42 W g (vals m c (.slice (some ⟨gd, 0, none⟩) 64 cd) f (.slice none 0 0) (.map (some gm))))
 (h1 : m.data = pad ld 64) (h2 : m.tr = []) (hf : SlAt W f m.frame) (hfk : ∀ k, some k = f.ownBlock → g < k ∧ ∃ cs, W.heap[k]? = some (.cells cs 5 (0, 0))) (hfl : m.frame.length ≤ 1048576) (hb1 : isBytes ld) (hb2 : isBytes m.frame) : Out B W g gm c (.slice (some ⟨gd, 0, none⟩) 64 cd) f m := by
 refine ⟨⟨hm, ?_, ⟨gd, cd, rfl, hcd, by rw [h1]; exact h.data, fun e => ?_⟩, hf, fun k hk => (hfk k hk).2, h.map, by rw [h1, pad_len], hfl, by rw [h1]; exact pad_bytes _ _ hb1, hb2⟩, ?_, ?_⟩
 · rw [h2]
   exact TrAt.mk_ (Kd.R_nil k54 54 W 0 (fun _ => True))
 · have := (hfk gd e).1
   have := h.hd.2
   omega
 · obtain ⟨A, cc, rfl, h3, h4⟩ := Kd.R_reads h.code
   refine ⟨A, cc, rfl, h3, h4, fun ad ha hn hk => ?_⟩
   subst ha
   have hlo := Kd.R_base h.code ad.block rfl
   have hhi : ad.block < g := h.code.1 ad.block rfl
   rcases hk with e | e | e
   · omega
   · omega
   · have := (hfk _ e).1
     omega
 · rintro k (rfl | rfl | e | e)
   · exact h.hg
   · exact h.hm.1
   · have : k = gd := by simpa [Value.ownBlock] using e
     subst this
     exact h.hd.1
   · have := (hfk k e).1
     have := h.hg
     omega
theorem pre_new {B b1 : Nat} {w9 w10 w11 : World} {A1 : Option Addr} {c1 gd cd : Nat} {lc ld : List Int} (o : Obj) (hB : B ≤ b1) (hcode : Kd.R (Kd.int .u8) 5 w10 b1 (fun _ => True) (.slice A1 lc.length c1) lc) (hdata : Filled w9 (.slice (some ⟨gd, 0, none⟩) 64 cd) ld 64 w10) (h9 : B ≤ w9.heap.size)
 (hmap : w11.heap[w10.heap.size]? = some (.map (Tab.tab 34) 34)) (hb8 : Below w10.heap.size w10 w11) : Pre B (w11.alloc o) w11.heap.size w10.heap.size (.slice A1 lc.length c1) gd lc ld := by
 obtain ⟨d1, d2, d3⟩ := hdata
 have hgd := (d2 gd rfl).1
 have hrow : Row gd (pad ld 64) w10 := by
  obtain ⟨A, c, e, hc, hr⟩ := d1
  rcases hr with hr | ⟨b, hb, hr⟩
  · have := pad_len ld 64
    rw [hr] at this
    simp at this
  · subst hb
    injection e with e1 e2 e3
    injection e1 with e1
    injection e1 with e1
    subst e1
    exact hr
 have h10 : w9.heap.size ≤ w10.heap.size := d3.size
 have hm := blk_lt hmap
 have hlt := hrow.lt
 refine ⟨Kd.R_mono (Kd.R_bound (Kd.R_alloc (Kd.R_below (Kd.R_bound (Kd.R_lower hcode hB)) hb8) o)) (fun k hk => ?_), (hrow.below hb8).below (below_alloc (Below.refl _ _) o), blk_below hmap (below_alloc (Below.refl _ _) o), ⟨by omega, by omega⟩, ⟨by omega, by omega⟩, by omega⟩
 have := hk.1.2.2.1
 show k < w11.heap.size
 omega
def bareCells (fu : Int) (c d q : Value) : Array Value := #[c, d, .slice none 0 0, .int .u64 0, .int .u64 0, .int .u64 0, .int .u64 0, .int .u64 0, .int .u64 0, .int .u64 0, .int .u64 0, .int .u64 0, .int .u64 0, .int .u64 0, .int .u64 0, .int .u64 0, .int .u64 0, .int .u64 0, .int .u64 0, .int .u64 0, .int .u64 0, .int .u64 0, .int .u64 0, .int .u64 0, .int .u64 0, .int .u64 0, .int .u64 0, .int .u64 0, .int .u64 0, .int .u64 0, .int .u64 0, .int .u64 0, .int .u64 0, .int .u64 0, .int .u64 0, .int .u64 4194304, .int .i64 fu, .int .i64 0, .bool false, .int .i64 0, .slice none 0 0, q]
theorem swapw {K : Act → World → Prop} {a : Act} {W W' : World} (h : W = W') (k : K a W) : K a W' := h ▸ k
theorem cells_bare (lc ld : List Int) (fu : Int) (c d q : Value) : ∀ i, i < 42 → (bareCells fu c d q)[i]? = some (vals (bare lc ld (fun _ => 0#64) fu) c d (.slice none 0 0) (.slice none 0 0) q i)
 | 0, _ => rfl
 | 1, _ => rfl
 | 2, _ => rfl
 | 3, _ => rfl
 | 4, _ => rfl
 | 5, _ => rfl
 | 6, _ => rfl
 | 7, _ => rfl
 | 8, _ => rfl
 | 9, _ => rfl
 | 10, _ => rfl
 | 11, _ => rfl
 | 12, _ => rfl
 | 13, _ => rfl
 | 14, _ => rfl
 | 15, _ => rfl
 | 16, _ => rfl
 | 17, _ => rfl
 | 18, _ => rfl
 | 19, _ => rfl
 | 20, _ => rfl
 | 21, _ => rfl
 | 22, _ => rfl
 | 23, _ => rfl
 | 24, _ => rfl
 | 25, _ => rfl
 | 26, _ => rfl
 | 27, _ => rfl
 | 28, _ => rfl
 | 29, _ => rfl
 | 30, _ => rfl
 | 31, _ => rfl
 | 32, _ => rfl
 | 33, _ => rfl
 | 34, _ => rfl
 | 35, _ => rfl
 | 36, _ => rfl
 | 37, _ => rfl
 | 38, _ => rfl
 | 39, _ => rfl
 | 40, _ => rfl
 | 41, _ => rfl
 | n + 42, h => absurd h (by omega)
theorem vals_done (lc ld : List Int) (x : Nat → BitVec 64) (fu : Int) (c d q : Value) (i : Nat) (h1 : i ≠ 38) (h2 : i ≠ 39) : vals { bare lc ld x fu with done := true, err := 1 } c d (.slice none 0 0) (.slice none 0 0) q i = vals (bare lc ld x fu) c d (.slice none 0 0) (.slice none 0 0) q i := by
 unfold vals
 simp only [if_neg h1, if_neg h2]
theorem vals_frame (lc ld l : List Int) (x : Nat → BitVec 64) (fu : Int) (c d f q : Value) (i : Nat) (h1 : i ≠ 2) : vals { bare lc ld x fu with frame := l } c d f (.slice none 0 0) q i = vals (bare lc ld x fu) c d (.slice none 0 0) (.slice none 0 0) q i := by
 unfold vals
 simp only [if_neg h1]
theorem out_bad {B : Nat} {W : World} {g gm gd cd : Nat} {c : Value} {lc ld lr ls : List Int} {fr fu : Int} (h : Pre B W g gm c gd lc ld) (hcd : 64 ≤ cd) (hm : MB 74 42 W g (vals (bare lc ld (entry lr) fu) c (.slice (some ⟨gd, 0, none⟩) 64 cd) (.slice none 0 0) (.slice none 0 0) (.map (some gm)))) (hb : bad fr) (hb1 : isBytes ld) :
 Out B ((W.setCell ⟨g, 38, none⟩ (.bool true)).setCell ⟨g, 39, none⟩ (.int .i64 1)) g gm c (.slice (some ⟨gd, 0, none⟩) 64 cd) (.slice none 0 0) (newM lc ld lr ls fr fu) := by
 have e : newM lc ld lr ls fr fu = { bare lc ld (entry lr) fu with done := true, err := 1 } := if_pos hb
 rw [e]
 refine out (m := { bare lc ld (entry lr) fu with done := true, err := 1 }) (h.step fun k hk => ?_) hcd ?_ rfl rfl ⟨none, 0, rfl, by show 0 ≤ 0; omega, .inl rfl⟩ (fun k hk => by simp [Value.ownBlock] at hk) (by show 0 ≤ 1048576; omega) hb1 (fun x hx => by cases hx)
 · rw [Below.heap_setCell _ _ _ k (Nat.ne_of_lt hk), Below.heap_setCell _ _ _ k (Nat.ne_of_lt hk)]
 · refine MB.put (v := fun i => if i = 38 then .bool true else vals (bare lc ld (entry lr) fu) c (.slice (some ⟨gd, 0, none⟩) 64 cd) (.slice none 0 0) (.slice none 0 0) (.map (some gm)) i) (hm.put 38 _ _ (if_pos rfl) (fun i hi hne => if_neg hne)) 39 _ _ rfl (fun i hi hne => ?_)
   by_cases h38 : i = 38
   · subst h38; rfl
   · rw [if_neg h38]
     exact vals_done _ _ _ _ _ _ _ _ h38 hne
theorem out_ok {B : Nat} {W W' : World} {g gm gd cd : Nat} {c f : Value} {lc ld lr ls : List Int} {fr fu : Int} (h : Pre B W g gm c gd lc ld) (hcd : 64 ≤ cd) (hm : MB 74 42 W g (vals (bare lc ld (entry lr) fu) c (.slice (some ⟨gd, 0, none⟩) 64 cd) (.slice none 0 0) (.slice none 0 0) (.map (some gm)))) (hb : ¬ bad fr) (hb1 : isBytes ld) (hb2 : isBytes ls) (hf : Filled W f ls fr.toNat W') :
 Out B (W'.setCell ⟨g, 2, none⟩ f) g gm c (.slice (some ⟨gd, 0, none⟩) 64 cd) f (newM lc ld lr ls fr fu) := by
 have e : newM lc ld lr ls fr fu = { bare lc ld (entry lr) fu with frame := pad ls fr.toNat } := if_neg hb
 rw [e]
 obtain ⟨f1, f2, f3⟩ := hf
 have hlt := hm.lt
 have hfar : ∀ k, some k = f.ownBlock → (W'.setCell ⟨g, 2, none⟩ f).heap[k]? = W'.heap[k]? := fun k hk => Below.heap_setCell _ _ _ k (by have := (f2 k hk).1; show k ≠ g; omega)
 have hfr : fr.toNat ≤ 1048576 := by unfold bad at hb; omega
 refine out (m := { bare lc ld (entry lr) fu with frame := pad ls fr.toNat }) (h.step fun k hk => ?_) hcd ?_ rfl rfl (f1.of (fun k hk _ => hfar k hk)) (fun k hk => ⟨by have := (f2 k hk).1; omega, ?_⟩) (by show (pad ls fr.toNat).length ≤ _; rw [pad_len]; exact hfr) hb1 (pad_bytes _ _ hb2)
 · rw [Below.heap_setCell _ _ _ k (Nat.ne_of_lt hk), f3.block k (by omega)]
 · exact (hm.below f3).put 2 _ _ rfl (fun i hi hne => vals_frame _ _ _ _ _ _ _ _ _ _ hne)
 · obtain ⟨cs, hcs⟩ := (f2 k hk).2
   exact ⟨cs, (hfar k hk).trans hcs⟩
end Go.Proofs.YtcgkgaibomcheaaGreat.NewE
end
section
namespace Go.Proofs.YtcgkgaibomcheaaGreat.NewR
open Go.RowKit Bits Mac Mb Rd EM RM Fill NewM NewE PRvemuRuns YtcgkgaibomcheaaGreatW.PrintWords YtcgkgaibomcheaaGreatW.PrintLast
structure PreR (B : Nat) (W : World) (g gd : Nat) (ld : List Int) : Prop where
 data : Row gd (pad ld 64) W
 hd : B ≤ gd ∧ gd < g
 hg : B ≤ g
theorem PreR.step {B : Nat} {W W' : World} {g gd : Nat} {ld : List Int} (h : PreR B W g gd ld) (hb : ∀ k, k < g → W'.heap[k]? = W.heap[k]?) : PreR B W' g gd ld where
 data := h.data.of (hb gd h.hd.2)
 hd := h.hd
 hg := h.hg
theorem pre_newR {B : Nat} {w9 w10 : World} {gd cd : Nat} {ld : List Int} (o : Obj) (hdata : Filled w9 (.slice (some ⟨gd, 0, none⟩) 64 cd) ld 64 w10) (h9 : B ≤ w9.heap.size) : PreR B (w10.alloc o) w10.heap.size gd ld := by
 obtain ⟨d1, d2, d3⟩ := hdata
 have hgd := (d2 gd rfl).1
 have hrow : Row gd (pad ld 64) w10 := by
  obtain ⟨A, c, e, hc, hr⟩ := d1
  rcases hr with hr | ⟨b, hb, hr⟩
  · have := pad_len ld 64
    rw [hr] at this
    simp at this
  · subst hb
    injection e with e1 e2 e3
    injection e1 with e1
    injection e1 with e1
    subst e1
    exact hr
 have h10 : w9.heap.size ≤ w10.heap.size := d3.size
 have hlt := hrow.lt
 exact ⟨hrow.below (below_alloc (Below.refl _ _) o), ⟨by omega, by omega⟩, by omega⟩
def OutR (B : Nat) (W : World) (g : Nat) (c d f : Value) (m : Mac) : Prop := MR W g m c d f (.slice none 0 0) ∧ ∀ k, k = g ∨ some k = d.ownBlock ∨ some k = f.ownBlock → B ≤ k
theorem outR {B : Nat} {W : World} {g gd cd : Nat} {c f : Value} {m : Mac} {ld : List Int} (h : PreR B W g gd ld) (hcd : 64 ≤ cd) (hm : MB 76 41 W g (vals m c (.slice (some ⟨gd, 0, none⟩) 64 cd) f (.slice none 0 0) undef))
 (h1 : m.data = pad ld 64) (h2 : m.tr = []) (hf : SlAt W f m.frame) (hfk : ∀ k, some k = f.ownBlock → g < k ∧ ∃ cs, W.heap[k]? = some (.cells cs 5 (0, 0))) (hfl : m.frame.length ≤ 1048576) (hb1 : isBytes ld) (hb2 : isBytes m.frame) : OutR B W g c (.slice (some ⟨gd, 0, none⟩) 64 cd) f m := by
 refine ⟨⟨hm, ?_, ⟨gd, cd, rfl, hcd, by rw [h1]; exact h.data⟩, hf, fun k hk => (hfk k hk).2, by rw [h1, pad_len], hfl, by rw [h1]; exact pad_bytes _ _ hb1, hb2⟩, ?_⟩
 · rw [h2]
   exact TrAt.mk_ (Kd.R_nil k54 54 W 0 (fun _ => True))
 · rintro k (rfl | e | e)
   · exact h.hg
   · have : k = gd := by simpa [Value.ownBlock] using e
     subst this
     exact h.hd.1
   · have := (hfk k e).1
     have := h.hg
     omega
theorem outR_bad {B : Nat} {W : World} {g gd cd : Nat} {c : Value} {lc ld lr ls : List Int} {fr fu : Int} (h : PreR B W g gd ld) (hcd : 64 ≤ cd) (hm : MB 76 41 W g (vals (bare lc ld (entry lr) fu) c (.slice (some ⟨gd, 0, none⟩) 64 cd) (.slice none 0 0) (.slice none 0 0) undef)) (hb : bad fr) (hb1 : isBytes ld) :
 OutR B ((W.setCell ⟨g, 38, none⟩ (.bool true)).setCell ⟨g, 39, none⟩ (.int .i64 1)) g c (.slice (some ⟨gd, 0, none⟩) 64 cd) (.slice none 0 0) (newM lc ld lr ls fr fu) := by
 have e : newM lc ld lr ls fr fu = { bare lc ld (entry lr) fu with done := true, err := 1 } := if_pos hb
 rw [e]
 refine outR (m := { bare lc ld (entry lr) fu with done := true, err := 1 }) (h.step fun k hk => ?_) hcd ?_ rfl rfl ⟨none, 0, rfl, by show 0 ≤ 0; omega, .inl rfl⟩ (fun k hk => by simp [Value.ownBlock] at hk) (by show 0 ≤ 1048576; omega) hb1 (fun x hx => by cases hx)
 · rw [Below.heap_setCell _ _ _ k (Nat.ne_of_lt hk), Below.heap_setCell _ _ _ k (Nat.ne_of_lt hk)]
 · refine MB.put (v := fun i => if i = 38 then .bool true else vals (bare lc ld (entry lr) fu) c (.slice (some ⟨gd, 0, none⟩) 64 cd) (.slice none 0 0) (.slice none 0 0) undef i) (hm.put 38 _ _ (if_pos rfl) (fun i hi hne => if_neg hne)) 39 _ _ rfl (fun i hi hne => ?_)
   by_cases h38 : i = 38
   · subst h38; rfl
   · rw [if_neg h38]
     exact vals_done _ _ _ _ _ _ _ _ h38 hne
theorem outR_ok {B : Nat} {W W' : World} {g gd cd : Nat} {c f : Value} {lc ld lr ls : List Int} {fr fu : Int} (h : PreR B W g gd ld) (hcd : 64 ≤ cd) (hm : MB 76 41 W g (vals (bare lc ld (entry lr) fu) c (.slice (some ⟨gd, 0, none⟩) 64 cd) (.slice none 0 0) (.slice none 0 0) undef)) (hb : ¬ bad fr) (hb1 : isBytes ld) (hb2 : isBytes ls) (hf : Filled W f ls fr.toNat W') :
 OutR B (W'.setCell ⟨g, 2, none⟩ f) g c (.slice (some ⟨gd, 0, none⟩) 64 cd) f (newM lc ld lr ls fr fu) := by
 have e : newM lc ld lr ls fr fu = { bare lc ld (entry lr) fu with frame := pad ls fr.toNat } := if_neg hb
 rw [e]
 obtain ⟨f1, f2, f3⟩ := hf
 have hlt := hm.lt
 have hfar : ∀ k, some k = f.ownBlock → (W'.setCell ⟨g, 2, none⟩ f).heap[k]? = W'.heap[k]? := fun k hk => Below.heap_setCell _ _ _ k (by have := (f2 k hk).1; show k ≠ g; omega)
 have hfr : fr.toNat ≤ 1048576 := by unfold bad at hb; omega
 refine outR (m := { bare lc ld (entry lr) fu with frame := pad ls fr.toNat }) (h.step fun k hk => ?_) hcd ?_ rfl rfl (f1.of (fun k hk _ => hfar k hk)) (fun k hk => ⟨by have := (f2 k hk).1; omega, ?_⟩) (by show (pad ls fr.toNat).length ≤ _; rw [pad_len]; exact hfr) hb1 (pad_bytes _ _ hb2)
 · rw [Below.heap_setCell _ _ _ k (Nat.ne_of_lt hk), f3.block k (by omega)]
 · exact (hm.below f3).put 2 _ _ rfl (fun i hi hne => vals_frame _ _ _ _ _ _ _ _ _ _ hne)
 · obtain ⟨cs, hcs⟩ := (f2 k hk).2
   exact ⟨cs, (hfar k hk).trans hcs⟩
def bareR (fu : Int) (c d : Value) : Array Value := #[c, d, .slice none 0 0, .int .u64 0, .int .u64 0, .int .u64 0, .int .u64 0, .int .u64 0, .int .u64 0, .int .u64 0, .int .u64 0, .int .u64 0, .int .u64 0, .int .u64 0, .int .u64 0, .int .u64 0, .int .u64 0, .int .u64 0, .int .u64 0, .int .u64 0, .int .u64 0, .int .u64 0, .int .u64 0, .int .u64 0, .int .u64 0, .int .u64 0, .int .u64 0, .int .u64 0, .int .u64 0, .int .u64 0, .int .u64 0, .int .u64 0, .int .u64 0, .int .u64 0, .int .u64 0, .int .u64 4194304, .int .i64 fu, .int .i64 0, .bool false, .int .i64 0, .slice none 0 0]
theorem cells_bareR (lc ld : List Int) (fu : Int) (c d : Value) : ∀ i, i < 41 → (bareR fu c d)[i]? = some (vals (bare lc ld (fun _ => 0#64) fu) c d (.slice none 0 0) (.slice none 0 0) undef i)
 | 0, _ => rfl
 | 1, _ => rfl
 | 2, _ => rfl
 | 3, _ => rfl
 | 4, _ => rfl
 | 5, _ => rfl
 | 6, _ => rfl
 | 7, _ => rfl
 | 8, _ => rfl
 | 9, _ => rfl
 | 10, _ => rfl
 | 11, _ => rfl
 | 12, _ => rfl
 | 13, _ => rfl
 | 14, _ => rfl
 | 15, _ => rfl
 | 16, _ => rfl
 | 17, _ => rfl
 | 18, _ => rfl
 | 19, _ => rfl
 | 20, _ => rfl
 | 21, _ => rfl
 | 22, _ => rfl
 | 23, _ => rfl
 | 24, _ => rfl
 | 25, _ => rfl
 | 26, _ => rfl
 | 27, _ => rfl
 | 28, _ => rfl
 | 29, _ => rfl
 | 30, _ => rfl
 | 31, _ => rfl
 | 32, _ => rfl
 | 33, _ => rfl
 | 34, _ => rfl
 | 35, _ => rfl
 | 36, _ => rfl
 | 37, _ => rfl
 | 38, _ => rfl
 | 39, _ => rfl
 | 40, _ => rfl
 | n + 41, h => absurd h (by omega)
def upto (lr : List Int) (i : Nat) : Nat → BitVec 64 := fun k => if 1 ≤ k ∧ k < i then given lr k else 0#64
theorem upto_one (lr : List Int) : upto lr 1 = fun _ => 0#64 := by
 funext k
 unfold upto
 rw [if_neg (by omega)]
theorem given_zero {lr : List Int} {k : Nat} (h : lr.length ≤ k ∨ 32 ≤ k) : given lr k = 0#64 := by
 unfold given
 by_cases hk : k < 32
 · rw [if_pos hk, List.getD_eq_getElem?_getD, List.getElem?_eq_none (by omega)]
   rfl
 · rw [if_neg hk]
theorem entry_upto (lr : List Int) (i : Nat) (hi : 32 ≤ i ∨ lr.length ≤ i) : setr (setr (setr (upto lr i) 1 412316860416#64) 2 2147418112#64) 10 65536#64 = entry lr := by
 funext k
 unfold setr entry upto
 by_cases h0 : k = 0
 · subst h0; rfl
 by_cases h1 : k = 1
 · subst h1; rfl
 by_cases h2 : k = 2
 · subst h2; rfl
 by_cases h10 : k = 10
 · subst h10; rfl
 rw [if_neg h10, if_neg h2, if_neg h1, if_neg h0, if_neg h1, if_neg h2, if_neg h10]
 by_cases hk : k < i
 · rw [if_pos ⟨by omega, hk⟩]
 · rw [if_neg (by omega), given_zero (by omega)]
theorem mb_upto {T n : Nat} {W : World} {g : Nat} {lc ld lr : List Int} {fu : Int} {c d f t q : Value} {i : Nat} (h : MB T n W g (vals (bare lc ld (upto lr i) fu) c d f t q)) (hi : 1 ≤ i) (hi2 : i < 32) (hw : isWords lr) : MB T n (W.setCell ⟨g, 3 + i, none⟩ (.int .u64 (lr.getD i 0))) g (vals (bare lc ld (upto lr (i + 1)) fu) c d f t q) := by
 refine mb_x h i hi2 _ ?_ fun k hk hne => ?_
 · unfold upto
   rw [if_pos ⟨hi, by omega⟩, U_given hw hi2]
 · unfold upto
   by_cases hk1 : 1 ≤ k ∧ k < i
   · rw [if_pos hk1, if_pos ⟨hk1.1, by omega⟩]
   · rw [if_neg hk1, if_neg (by omega)]
end Go.Proofs.YtcgkgaibomcheaaGreat.NewR
end
section
namespace Go.Proofs.YtcgkgaibomcheaaGreat.Pure
open Go.RowKit Bits Mac Dec NewM YtcgkgaibomcheaaGreatW.PrintWords
def it : Nat → Mac → Mac
 | 0, m => m
 | k + 1, m => stepM (it k m)
theorem step_done (m : Mac) (h : m.done = true) : stepM m = m := by
 unfold stepM
 rw [if_pos h]
theorem it_done (m : Mac) {k : Nat} (h : (it k m).done = true) : ∀ j, k ≤ j → it j m = it k m
 | 0, hj => by
  obtain rfl : k = 0 := by omega
  rfl
 | j + 1, hj => by
  by_cases e : k = j + 1
  · rw [e]
  · show stepM (it j m) = _
    rw [it_done m h j (by omega)]
    exact step_done _ h
structure Same0 (m m' : Mac) : Prop where
 code : m'.code = m.code
 fuel : m'.fuel = m.fuel
 steps : m'.steps = m.steps
 done : m'.done = m.done
 err : m'.err = m.err
 data : m'.data = m.data
 fl : m'.frame.length = m.frame.length
 x0 : m'.x 0 = m.x 0
theorem Same0.refl (m : Mac) : Same0 m m := ⟨rfl, rfl, rfl, rfl, rfl, rfl, rfl, rfl⟩
theorem Same0.trans {a b c : Mac} (h : Same0 a b) (k : Same0 b c) : Same0 a c := ⟨k.1.trans h.1, k.2.trans h.2, k.3.trans h.3, k.4.trans h.4, k.5.trans h.5, k.6.trans h.6, k.7.trans h.7, k.8.trans h.8⟩
theorem same_setx (m : Mac) (r : Nat) (v : BitVec 64) : Same0 m (setx m r v) := by
 unfold setx
 by_cases h : r = 0
 · rw [if_pos h]; exact Same0.refl m
 · rw [if_neg h]
   exact ⟨rfl, rfl, rfl, rfl, rfl, rfl, rfl, if_neg (fun e => h e.symm)⟩
theorem same_setpc (m : Mac) (p : BitVec 64) : Same0 m (setpc m p) := ⟨rfl, rfl, rfl, rfl, rfl, rfl, rfl, rfl⟩
theorem same_note (m : Mac) (e : PRvemuRuns.S54) : Same0 m (note m e) := ⟨rfl, rfl, rfl, rfl, rfl, rfl, rfl, rfl⟩
theorem same_setf (m : Mac) (l : List Int) (h : l.length = m.frame.length) : Same0 m (setf m l) := ⟨rfl, rfl, rfl, rfl, rfl, rfl, h, rfl⟩
theorem tr_setx (m : Mac) (r : Nat) (v : BitVec 64) : (setx m r v).tr = m.tr := by
 unfold setx
 split <;> rfl
def Told (m m' : Mac) : Prop := m'.tr = m.tr ∨ ∃ e, m'.tr = m.tr ++ [e] ∧ (e.f2 = 4 ∨ e.f2 = 8) ∧ ((e.f0 = false ∧ da e.f1 e.f2.toNat = true) ∨ fr m.frame.length e.f1 e.f2.toNat = true)
theorem sz_48 (n : Nat) : ((sz n : Nat) : Int) = 4 ∨ ((sz n : Nat) : Int) = 8 := by
 unfold sz
 by_cases h : n = 11 ∨ n = 14
 · rw [if_pos h]; exact .inr rfl
 · rw [if_neg h]; exact .inl rfl
theorem told_of (m m' : Mac) (h : m'.tr = m.tr) : Told m m' := .inl h
theorem does_ok (m : Mac) (n wd : Nat) : Same0 m (does m n wd).1 ∧ Told m (does m n wd).1 := by
 unfold does
 by_cases h10 : n ≤ 10
 · rw [if_pos h10]
   exact ⟨(same_setpc _ _).trans (same_setx _ _ _), told_of _ _ (tr_setx _ _ _)⟩
 rw [if_neg h10]
 by_cases h13 : n ≤ 13
 · rw [if_pos h13]
   cases hl : loads m (ra m n wd + im n wd) (sz n) with
   | none => exact ⟨Same0.refl m, .inl rfl⟩
   | some v =>
    refine ⟨((same_setpc _ _).trans (same_note _ _)).trans (same_setx _ _ _), .inr ⟨_, tr_setx _ _ _, sz_48 n, ?_⟩⟩
    unfold loads at hl
    by_cases h1 : fr m.frame.length (U (ra m n wd + im n wd)) (sz n) = true
    · exact .inr h1
    · rw [if_neg h1] at hl
      by_cases h2 : da (U (ra m n wd + im n wd)) (sz n) = true
      · exact .inl ⟨rfl, h2⟩
      · rw [if_neg h2] at hl
        cases hl
 rw [if_neg h13]
 by_cases h15 : n ≤ 15
 · rw [if_pos h15]
   by_cases h1 : fr m.frame.length (U (ra m n wd + im n wd)) (sz n) = true
   · rw [if_pos h1]
     exact ⟨((same_setpc _ _).trans (same_setf _ _ (st_length _ _ _ _))).trans (same_note _ _), .inr ⟨_, rfl, sz_48 n, .inr h1⟩⟩
   · rw [if_neg h1]
     exact ⟨Same0.refl m, .inl rfl⟩
 rw [if_neg h15]
 by_cases h28 : n ≤ 28
 · rw [if_pos h28]
   cases RTwo.two n (ra m n wd) (rb m n wd) with
   | none => exact ⟨Same0.refl m, .inl rfl⟩
   | some v => exact ⟨(same_setpc _ _).trans (same_setx _ _ _), told_of _ _ (tr_setx _ _ _)⟩
 rw [if_neg h28]
 by_cases h32 : n ≤ 32
 · rw [if_pos h32]
   exact ⟨same_setpc _ _, .inl rfl⟩
 rw [if_neg h32]
 by_cases h33 : n = 33
 · rw [if_pos h33]
   exact ⟨(same_setpc _ _).trans (same_setx _ _ _), told_of _ _ (tr_setx _ _ _)⟩
 · rw [if_neg h33]
   exact ⟨(same_setpc _ _).trans (same_setx _ _ _), told_of _ _ (tr_setx _ _ _)⟩
theorem step_cases (m : Mac) : (m.done = true ∧ stepM m = m) ∨ (m.done = false ∧ ∃ e, stepM m = fin m e) ∨ (m.done = false ∧ ¬ m.fuel ≤ m.steps ∧ ∃ n, dec (word m) = some n ∧ (does m n (word m)).2 = 0 ∧ stepM m = after (does m n (word m)).1) := by
 by_cases hd : m.done = true
 · exact .inl ⟨hd, step_done m hd⟩
 have hd' : m.done = false := by cases hq : m.done with
  | true => exact absurd hq hd
  | false => rfl
 refine .inr ?_
 unfold stepM
 rw [if_neg hd]
 by_cases hb : m.pc = back
 · rw [if_pos hb]; exact .inl ⟨hd', _, rfl⟩
 rw [if_neg hb]
 by_cases hf : m.fuel ≤ m.steps
 · rw [if_pos hf]; exact .inl ⟨hd', _, rfl⟩
 rw [if_neg hf]
 by_cases hft : fetches m = false
 · rw [if_pos hft]; exact .inl ⟨hd', _, rfl⟩
 rw [if_neg hft]
 cases hw : dec (word m) with
 | none => exact .inl ⟨hd', _, rfl⟩
 | some n =>
  simp only
  by_cases h0 : (does m n (word m)).2 = 0
  · rw [if_pos h0]; exact .inr ⟨hd', hf, n, rfl, h0, rfl⟩
  · rw [if_neg h0]; exact .inl ⟨hd', _, rfl⟩
def Fine (fl : Nat) (e : PRvemuRuns.S54) : Prop := (e.f2 = 4 ∨ e.f2 = 8) ∧ ((e.f0 = false ∧ da e.f1 e.f2.toNat = true) ∨ fr fl e.f1 e.f2.toNat = true)
structure Inv (m0 m : Mac) : Prop where
 code : m.code = m0.code
 fuel : m.fuel = m0.fuel
 fl : m.frame.length = m0.frame.length
 x0 : m.x 0 = m0.x 0
 steps : 0 ≤ m.steps
 max : m.steps ≤ m.fuel ∨ m.steps = 0
 tr : (m.tr.length : Int) ≤ m.steps
 fine : ∀ e ∈ m.tr, Fine m0.frame.length e
theorem inv_step {m0 m : Mac} (h : Inv m0 m) : Inv m0 (stepM m) := by
 rcases step_cases m with ⟨_, e⟩ | ⟨_, er, e⟩ | ⟨hd, hf, n, hw, h0, e⟩
 · rw [e]; exact h
 · rw [e]; exact ⟨h.1, h.2, h.3, h.4, h.5, h.6, h.7, h.8⟩
 · rw [e]
   obtain ⟨s, t⟩ := does_ok m n (word m)
   have hst := h.steps
   have htr := h.tr
   refine ⟨s.code.trans h.code, s.fuel.trans h.fuel, s.fl.trans h.fl, s.x0.trans h.x0, ?_, ?_, ?_, ?_⟩
   · show 0 ≤ (does m n (word m)).1.steps + 1
     rw [s.steps]; omega
   · show (does m n (word m)).1.steps + 1 ≤ (does m n (word m)).1.fuel ∨ (does m n (word m)).1.steps + 1 = 0
     rw [s.steps, s.fuel]; omega
   · show ((does m n (word m)).1.tr.length : Int) ≤ (does m n (word m)).1.steps + 1
     rw [s.steps]
     rcases t with t | ⟨x, t, _⟩
     · rw [t]; omega
     · rw [t, List.length_append, List.length_singleton]; omega
   · show ∀ x ∈ (does m n (word m)).1.tr, _
     rcases t with t | ⟨x, t, t2, t3⟩
     · rw [t]; exact h.fine
     · rw [t]
       intro y hy
       rcases List.mem_append.1 hy with hy | hy
       · exact h.fine y hy
       · rw [List.mem_singleton] at hy
         subst hy
         rw [h.fl] at t3
         exact ⟨t2, t3⟩
theorem inv_it {m0 m : Mac} (h : Inv m0 m) : ∀ k, Inv m0 (it k m)
 | 0 => h
 | k + 1 => inv_step (inv_it h k)
theorem it_steps (m : Mac) (h0 : m.steps = 0) : ∀ k, (it k m).done = false → m.done = false → (it k m).steps = k
 | 0, _, _ => h0
 | k + 1, hd, hm => by
  have hk : (it k m).done = false := by
   cases hq : (it k m).done with
   | false => rfl
   | true =>
    have e : it (k + 1) m = it k m := step_done _ hq
    rw [e, hq] at hd
    cases hd
  have ih := it_steps m h0 k hk hm
  show (stepM (it k m)).steps = _
  have hd2 : (stepM (it k m)).done = false := hd
  rcases step_cases (it k m) with ⟨e, _⟩ | ⟨_, er, e⟩ | ⟨_, hf, n, hw, hz, e⟩
  · rw [hk] at e; cases e
  · rw [e] at hd2; cases hd2
  · rw [e]
    show (does (it k m) n (word (it k m))).1.steps + 1 = _
    rw [(does_ok _ n _).1.steps, ih]
    omega
theorem it_fuel (m : Mac) : ∀ k, (it k m).fuel = m.fuel
 | 0 => rfl
 | k + 1 => by
  show (stepM (it k m)).fuel = _
  rw [← it_fuel m k]
  rcases step_cases (it k m) with ⟨_, e⟩ | ⟨_, er, e⟩ | ⟨_, hf, n, hw, hz, e⟩
  · rw [e]
  · rw [e]; rfl
  · rw [e]; exact (does_ok _ n _).1.fuel
theorem it_ends (m : Mac) (h0 : m.steps = 0) : (it (m.fuel.toNat + 1) m).done = true := by
 cases hd : (it (m.fuel.toNat + 1) m).done with
 | true => rfl
 | false =>
  exfalso
  have hm : m.done = false := by
   cases hq : m.done with
   | false => rfl
   | true =>
    have e := it_done m (k := 0) hq (m.fuel.toNat + 1) (by omega)
    rw [e] at hd
    rw [← hd]
    exact hq.symm
  have hk : (it m.fuel.toNat m).done = false := by
   cases hq : (it m.fuel.toNat m).done with
   | false => rfl
   | true =>
    have e : it (m.fuel.toNat + 1) m = it m.fuel.toNat m := step_done _ hq
    rw [e, hq] at hd
    cases hd
  have hs := it_steps m h0 _ hk hm
  have hf := it_fuel m m.fuel.toNat
  have hd2 : (stepM (it m.fuel.toNat m)).done = false := hd
  rcases step_cases (it m.fuel.toNat m) with ⟨e, _⟩ | ⟨_, er, e⟩ | ⟨_, hff, n, hw, hz, e⟩
  · rw [hk] at e; cases e
  · rw [e] at hd2; cases hd2
  · rw [hs, hf] at hff
    omega
def runM (m : Mac) : Mac := it (m.fuel.toNat + 1) m
theorem runM_of (m : Mac) (h0 : m.steps = 0) {k : Nat} (h : (it k m).done = true) : runM m = it k m := by
 have he := it_ends m h0
 unfold runM
 by_cases hk : k ≤ m.fuel.toNat + 1
 · exact it_done m h _ hk
 · exact (it_done m he _ (by omega)).symm
end Go.Proofs.YtcgkgaibomcheaaGreat.Pure
end
section
namespace Go.Proofs.YtcgkgaibomcheaaGreat.Goes
open Go.RowKit Bits Mac Mb Rd EM EDo RM NewM NewE NewR Go.Proofs.YtcgkgaibomcheaaGreat.Pure PRvemuRuns YtcgkgaibomcheaaGreatW.PrintWords YtcgkgaibomcheaaGreatW.PrintLast
theorem below_wr {B : Nat} {w W W' : World} {S : Nat → Prop} (hb : Below B w W) (hB : B ≤ W.heap.size) (hw : Wr S W W') (hS : ∀ k, k < W.heap.size → S k → B ≤ k) : Below B w W' := by
 obtain ⟨⟨h1, h2⟩, h3, h4, h5⟩ := hw
 exact ⟨h3.trans hb.os, h4.trans hb.tape, h5.trans hb.output, Nat.le_trans hb.size h1, fun k hk => (h2 k (by omega) (fun hs => by have := hS k (by omega) hs; omega)).trans (hb.block k hk)⟩
theorem code_step (m : Mac) : (stepM m).code = m.code := by
 rcases step_cases m with ⟨_, e⟩ | ⟨_, er, e⟩ | ⟨_, hf, n, hw, hz, e⟩
 · rw [e]
 · rw [e]; rfl
 · rw [e]; exact (does_ok _ n _).1.code
def SE (B B1 g : Nat) (f : Value) (k : Nat) : Prop := k < B ∨ k = g ∨ some k = f.ownBlock ∨ B1 ≤ k
structure GoE (B B1 : Nat) (g gm : Nat) (c d f t : Value) (W : World) (m : Mac) : Prop where
 me : ME W g m c d f t gm
 code : CodeAt W (SE B B1 g f) c m.code
 own : ∀ k, some k = t.ownBlock → B1 ≤ k
 low : ∀ k, k = g ∨ k = gm ∨ some k = d.ownBlock ∨ some k = f.ownBlock → B ≤ k
 high : ∀ k, k = g ∨ k = gm ∨ some k = d.ownBlock ∨ some k = f.ownBlock → k < B1
 size : B1 ≤ W.heap.size
 hB : B ≤ B1
theorem goE_new {B : Nat} {W : World} {g gm : Nat} {c d f : Value} {m : Mac} (h : Out B W g gm c d f m) (hB : B ≤ W.heap.size) : GoE B W.heap.size g gm c d f (.slice none 0 0) W m := by
 obtain ⟨h1, h2, h3⟩ := h
 refine ⟨h1, h2.imp (fun k hk hs => ?_), fun k hk => by simp [Value.ownBlock] at hk, h3, fun k hk => ?_, Nat.le_refl _, hB⟩
 · rcases hs with e | e | e | e
   · exact .inl e
   · exact .inr (.inl e)
   · exact .inr (.inr e)
   · omega
 · rcases hk with e | e | e | e
   · rw [e]; exact h1.mb.lt
   · rw [e]; exact blk_lt h1.map
   · obtain ⟨gd, cd, q1, q2, q3, q4⟩ := h1.data
     rw [q1] at e
     have : k = gd := by simpa [Value.ownBlock] using e
     rw [this]; exact q3.lt
   · obtain ⟨cs, q⟩ := h1.fty k e
     exact blk_lt q
theorem GoE.owned {B B1 g gm : Nat} {c d f t : Value} {W : World} {m : Mac} (h : GoE B B1 g gm c d f t W m) (k : Nat) (hk : EM.own g f t k) : SE B B1 g f k ∧ B ≤ k := by
 rcases hk with e | e | e
 · exact ⟨.inr (.inl e), h.low k (.inl e)⟩
 · exact ⟨.inr (.inr (.inl e)), h.low k (.inr (.inr (.inr e)))⟩
 · have := h.own k e
   have := h.hB
   exact ⟨.inr (.inr (.inr (h.own k e))), by omega⟩
theorem GoE.step {B B1 g gm : Nat} {c d f t : Value} {W W' : World} {m : Mac} (h : GoE B B1 g gm c d f t W m) (hl : Lft W g gm (stepM m) c d f t W') : ∃ t', GoE B B1 g gm c d f t' W' (stepM m) := by
 obtain ⟨t1, a1, a2, a3⟩ := hl
 refine ⟨t1, a1, ?_, fun k hk => ?_, h.low, h.high, Nat.le_trans h.size a2.1.1, h.hB⟩
 · rw [code_step]
   exact h.code.kept a2.1 (fun k _ hk => (h.owned k hk).1)
 · rcases a3 k hk with e | e
   · exact h.own k e
   · exact Nat.le_trans h.size e
theorem GoE.kept {B B1 g gm : Nat} {c d f t : Value} {W W' : World} {m : Mac} {T : Nat → Prop} (h : GoE B B1 g gm c d f t W m) (hk : Kept W W' T) (hT : ∀ k, k < W.heap.size → T k → k < B ∨ (B1 ≤ k ∧ some k ≠ t.ownBlock)) : GoE B B1 g gm c d f t W' m := by
 have low := h.low
 have hB := h.hB
 refine ⟨h.me.kept hk (fun k hlt hs => ?_), h.code.kept hk (fun k hlt hs => ?_), h.own, low, h.high, Nat.le_trans h.size hk.1, hB⟩
 · have hx : ¬ (k = g ∨ k = gm ∨ some k = d.ownBlock ∨ some k = f.ownBlock) := fun e => by
    have h1 := low k e
    have h2 := h.high k e
    rcases hT k hlt hs with e | ⟨e, _⟩ <;> omega
   refine ⟨fun e => ?_, fun e => hx (.inr (.inr (.inl e))), fun e => hx (.inr (.inl e))⟩
   rcases e with e | e | e
   · exact hx (.inl e)
   · exact hx (.inr (.inr (.inr e)))
   · have h1 := h.own k e
     rcases hT k hlt hs with q | q
     · omega
     · exact q.2 e
 · rcases hT k hlt hs with e | e
   · exact .inl e
   · exact .inr (.inr (.inr e.1))
structure GoR (B : Nat) (g : Nat) (c d f t : Value) (W : World) (m : Mac) : Prop where
 mr : MR W g m c d f t
 code : CodeAt W (fun k => B ≤ k) c m.code
 low : ∀ k, k = g ∨ some k = d.ownBlock ∨ some k = f.ownBlock ∨ some k = t.ownBlock → B ≤ k
 size : B ≤ W.heap.size
theorem goR_new {B : Nat} {W : World} {g : Nat} {c d f : Value} {m : Mac} (h : OutR B W g c d f m) (hc : CodeAt W (fun k => B ≤ k) c m.code) (hB : B ≤ W.heap.size) : GoR B g c d f (.slice none 0 0) W m := by
 refine ⟨h.1, hc, fun k hk => ?_, hB⟩
 rcases hk with e | e | e | e
 · exact h.2 k (.inl e)
 · exact h.2 k (.inr (.inl e))
 · exact h.2 k (.inr (.inr e))
 · simp [Value.ownBlock] at e
theorem GoR.owned {B g : Nat} {c d f t : Value} {W : World} {m : Mac} (h : GoR B g c d f t W m) (k : Nat) (hk : ownR g t k) : B ≤ k := by
 rcases hk with e | e
 · exact h.low k (.inl e)
 · exact h.low k (.inr (.inr (.inr e)))
theorem GoR.step {B g : Nat} {c d f t : Value} {W W' : World} {m : Mac} (h : GoR B g c d f t W m) (hl : LftR W g (stepM m) c d f t W') : ∃ f' t', GoR B g c d f' t' W' (stepM m) := by
 obtain ⟨f1, t1, a1, a2, a3, a4⟩ := hl
 refine ⟨f1, t1, a1, ?_, fun k hk => ?_, Nat.le_trans h.size a2.1.1⟩
 · rw [code_step]
   exact h.code.kept a2.1 (fun k _ hk => h.owned k hk)
 · have hs := h.size
   rcases hk with e | e | e | e
   · exact h.low k (.inl e)
   · exact h.low k (.inr (.inl e))
   · rcases a4 k e with e | e
     · exact h.low k (.inr (.inr (.inl e)))
     · omega
   · rcases a3 k e with e | e
     · exact h.low k (.inr (.inr (.inr e)))
     · omega
theorem GoR.kept {B g : Nat} {c d f t : Value} {W W' : World} {m : Mac} {T : Nat → Prop} (h : GoR B g c d f t W m) (hk : Kept W W' T) (hT : ∀ k, k < W.heap.size → T k → ¬ (k = g ∨ some k = d.ownBlock ∨ some k = f.ownBlock ∨ some k = t.ownBlock)) (hc : CodeAt W' (fun k => B ≤ k) c m.code) : GoR B g c d f t W' m := by
 refine ⟨h.mr.kept hk (fun k hlt hs => ?_), hc, h.low, Nat.le_trans h.size hk.1⟩
 have := hT k hlt hs
 refine ⟨fun e => ?_, fun e => this (.inr (.inl e)), fun e => this (.inr (.inr (.inl e)))⟩
 rcases e with e | e
 · exact this (.inl e)
 · exact this (.inr (.inr (.inr e)))
theorem inv_new (lc ld lr ls : List Int) (fr fu : Int) : Inv (newM lc ld lr ls fr fu) (newM lc ld lr ls fr fu) := by
 unfold newM
 by_cases h : bad fr
 · rw [if_pos h]
   exact ⟨rfl, rfl, rfl, rfl, by show (0 : Int) ≤ 0; omega, .inr rfl, by show ((0 : Nat) : Int) ≤ 0; omega, fun e he => by cases he⟩
 · rw [if_neg h]
   exact ⟨rfl, rfl, rfl, rfl, by show (0 : Int) ≤ 0; omega, .inr rfl, by show ((0 : Nat) : Int) ≤ 0; omega, fun e he => by cases he⟩
theorem new_code (lc ld lr ls : List Int) (fr fu : Int) : (newM lc ld lr ls fr fu).code = lc := by unfold newM; split <;> rfl
theorem new_steps (lc ld lr ls : List Int) (fr fu : Int) : (newM lc ld lr ls fr fu).steps = 0 := by unfold newM; split <;> rfl
theorem new_fuel (lc ld lr ls : List Int) (fr fu : Int) : (newM lc ld lr ls fr fu).fuel = fu := by unfold newM; split <;> rfl
end Go.Proofs.YtcgkgaibomcheaaGreat.Goes
end
section
namespace Go.Proofs.YtcgkgaibomcheaaGreat.PRvemuRuns
open Go.RowKit YtcgkgaibomcheaaGreatW.PrintWords YtcgkgaibomcheaaGreatW.PrintLast YtcgkgaibomcheaaGreatW.PrintMore
attribute [local go_sem] max2_int min2_int max_two min_two max_three min_three max_four min_four
def ravelinref15_Bytes.l0 : Nat → List (S42) → List Int → Int → Option (List Int × Int × Int)
 | 0, _, _, _ => none
 | k + 1, x0, x5, x6 => if x6 < (x0.length : Int) then (if 0 ≤ x6 then ((ravelinref15_Encode.f k ((rd_T42 x0 x6).f0) ((rd_T42 x0 x6).f1) ((rd_T42 x0 x6).f2) ((rd_T42 x0 x6).f3) ((rd_T42 x0 x6).f4)).bind fun bt152 => (if bt152.2 = 0 then ((some (([(bt152.1) % 256, (bt152.1 / 256) % 256, (bt152.1 / 65536) % 256, (bt152.1 / 16777216) % 256] : List Int) : List Int)).bind fun y154 => (if x5.length + y154.length < 140737488355328 then (ravelinref15_Bytes.l0 k x0 (x5 ++ y154) (wrap64 (x6 + 1))) else (none))) else (some (([] : List Int), bt152.2, x6)))) else (none)) else (some (x5, 0, 0))
def ravelinref15_Bytes.f (k : Nat) (l0 : List (S42)) : Option (List Int × Int × Int) := ravelinref15_Bytes.l0 k l0 ([] : List Int) 0
set_option maxHeartbeats 8000000 in
set_option maxRecDepth 100000 in
theorem ravelinref15_Bytes.calls (k : Nat) (A0 : Option Addr) (c0 : Nat) (l0 : List (S42)) (r1 : List Int) (r2 : Int) (r3 : Int) (w : World) (hr0 : Kd.C k42 w A0 l0.length l0) (hc0 : l0.length ≤ c0) (h : ravelinref15_Bytes.f k l0 = some (r1, r2, r3)) :
 Calls Tryz.prog 18 #[.slice A0 l0.length c0] w fun e w' => ∃ v0_ : Value, e = .returned (.tuple #[v0_, .int .i64 r2, .int .i64 r3]) ∧ Kd.R (Kd.int .u8) 5 w' w.heap.size (fun _ => True) v0_ r1 ∧ Below w.heap.size w w' := by
 have hu42 := Tryz.underlying42
 have HR0 := Aside0.mk hr0
 have HC0 := Aside0.mk hc0
 clear hr0 hc0
 have HB := Aside0.mk (Below.refl w.heap.size w)
 have H : (ravelinref15_Bytes.l0 k l0 ([] : List Int) 0) = some (r1, r2, r3) := h
 clear h
 have H' := Aside0.mk H
 clear H
 go_enter Tryz.func18, Tryz.ntmps18
 go_wp2
 go_loopg [5, 6] k (fun kq v5 v6 w' => ∃ (x5_1 : List Int) (x6_1 : Int), v6 = .int .i64 x6_1 ∧ Aside0 (ravelinref15_Bytes.l0 kq l0 x5_1 x6_1 = some (r1, r2, r3)) ∧ Aside0 (kq ≤ k) ∧ Aside0 (Kd.R (Kd.int .u8) 5 w' w.heap.size (fun _ => True) v5 x5_1) ∧ Aside0 (Below w.heap.size w w'))
 case atStart => exact ⟨(([] : List Int)), (0), (by first | rfl | (simp; done) | (simp [*]; done)), H', ⟨Nat.le_refl _⟩, ⟨by exact Kd.R_nil _ _ _ _ _⟩, ⟨by repeat (first | (with_reducible first | exact HB.out | apply below_alloc | apply pw_below_drewN | apply below_drew1) | exact HB.out)⟩⟩
 case round =>
  clear H'
  try clear c1
  obtain ⟨x5_1, x6_1, rfl, HA, HK1, HO_5, HB⟩ := hrel
  cases gk with
  | zero => exact absurd HA.out (by simp [ravelinref15_Bytes.l0])
  | succ k1 =>
   have H := HA.out
   clear HA
   simp only [ravelinref15_Bytes.l0] at H
   by_cases c2 : x6_1 < (l0.length : Int)
   · rw [if_pos c2] at H
     have c2b0 : decide (x6_1 < (l0.length : Int)) = true := decide_eq_true c2
     clear c2
     by_cases c3 : 0 ≤ x6_1
     · rw [if_pos c3] at H
       have c3b0 : decide (0 ≤ x6_1) = true := decide_eq_true c3
       clear c3
       replace H := Option.bind_eq_some_iff.mp H
       obtain ⟨⟨t152, t153⟩, A40, H⟩ := H
       replace H : (if t153 = 0 then ((some (([(t152) % 256, (t152 / 256) % 256, (t152 / 65536) % 256, (t152 / 16777216) % 256] : List Int) : List Int)).bind fun y154 => (if x5_1.length + y154.length < 140737488355328 then (ravelinref15_Bytes.l0 k1 l0 (x5_1 ++ y154) (wrap64 (x6_1 + 1))) else (none))) else (some (([] : List Int), t153, x6_1))) = some (r1, r2, r3) := H
       have A4 := Aside0.mk A40
       clear A40
       by_cases c5 : t153 = 0
       · rw [if_pos c5] at H
         have c5b0 : (t153 == 0) = true := beq_iff_eq.mpr c5
         have c5b1 : (t153 != 0) = false := bne_eq_false_iff_eq.mpr c5
         clear c5
         obtain ⟨y154, hy154⟩ : ∃ y_ : List Int, y_ = (([(t152) % 256, (t152 / 256) % 256, (t152 / 65536) % 256, (t152 / 16777216) % 256] : List Int)) := ⟨_, rfl⟩
         replace H : (if x5_1.length + y154.length < 140737488355328 then (ravelinref15_Bytes.l0 k1 l0 (x5_1 ++ y154) (wrap64 (x6_1 + 1))) else (none)) = some (r1, r2, r3) := by first | (rw [hy154]; with_reducible exact H) | (have H2_ := (Option.bind_some _ _).symm.trans H; rw [hy154]; with_reducible exact H2_) | (have H2_ := (Option.bind_some _ _).symm.trans H; with_reducible exact H2_) | with_reducible exact H | (rw [hy154]; exact H) | exact H
         have Ny154 := Aside0.mk hy154
         clear hy154
         by_cases c6 : x5_1.length + y154.length < 140737488355328
         · rw [if_pos c6] at H
           have LMc6 := Aside0.mk c6
           clear c6
           obtain ⟨y157, hy157⟩ : ∃ y_ : List Int, y_ = (x5_1 ++ y154) := ⟨_, rfl⟩
           replace H : (ravelinref15_Bytes.l0 k1 l0 y157 (wrap64 (x6_1 + 1))) = some (r1, r2, r3) := by first | (rw [hy157]; with_reducible exact H) | (have H2_ := (Option.bind_some _ _).symm.trans H; rw [hy157]; with_reducible exact H2_) | (have H2_ := (Option.bind_some _ _).symm.trans H; with_reducible exact H2_) | with_reducible exact H | (rw [hy157]; exact H) | exact H
           have Ny157 := Aside0.mk hy157
           clear hy157
           have H' := Aside0.mk H
           clear H
           have p151 : 0 ≤ (x6_1 : Int) := of_decide_eq_true (by first | (with_reducible assumption) | assumption)
           have q151 : x6_1 < (l0.length : Int) := of_decide_eq_true (by first | (with_reducible assumption) | assumption)
           obtain ⟨ad151, e151, hx151_0, hx151_1, hx151_2, hx151_3, hx151_4⟩ := at_T42 HR0.out x6_1 p151 q151
           cases e151
           replace hx151_0 := (HB.out.cell (World.block_lt_of_cell? w _ hx151_0)).trans hx151_0
           replace hx151_1 := (HB.out.cell (World.block_lt_of_cell? w _ hx151_1)).trans hx151_1
           replace hx151_2 := (HB.out.cell (World.block_lt_of_cell? w _ hx151_2)).trans hx151_2
           replace hx151_3 := (HB.out.cell (World.block_lt_of_cell? w _ hx151_3)).trans hx151_3
           replace hx151_4 := (HB.out.cell (World.block_lt_of_cell? w _ hx151_4)).trans hx151_4
           replace p151 := eq_true p151
           replace q151 := eq_true q151
           go_wp2_with (first | ((with_reducible refine gate_callee (f := 17) rfl ?_); refine goesL_ (some 20) rfl rfl Tryz.func17 (by kernel_rfl) rfl #[.agg #[.int .i64 ((rd_T42 l0 x6_1).f0), .int .i64 ((rd_T42 l0 x6_1).f1), .int .i64 ((rd_T42 l0 x6_1).f2), .int .i64 ((rd_T42 l0 x6_1).f3), .int .i64 ((rd_T42 l0 x6_1).f4)]] rfl (by (try simp only [List.map_toArray, List.map_cons, List.map_nil]); first | done | rfl | (simp only [List.length_drop, List.length_take]; rfl)) ?_; (with_reducible refine (ravelinref15_Encode.calls k1 ((rd_T42 l0 x6_1).f0) ((rd_T42 l0 x6_1).f1) ((rd_T42 l0 x6_1).f2) ((rd_T42 l0 x6_1).f3) ((rd_T42 l0 x6_1).f4) t152 t153 _ A4.out).mono ?_); rintro e w7 ⟨rfl, hb⟩; refine ⟨_, rfl, ?_⟩; have n0_ := Aside0.mk (Kd.R_below (by (with_reducible repeat (first | apply Kd.R_alloc | apply Kd.R_drewN | apply Kd.R_drew)); exact HO_5.out) hb); have n1_ := Aside0.mk (below_step (by repeat (first | (with_reducible first | exact HB.out | apply below_alloc | apply pw_below_drewN | apply below_drew1) | exact HB.out)) hb); clear HO_5; clear HB; have HO_5 := n0_; have HB := n1_; clear n0_ n1_; (try clear hb); (try clear hb2); (try clear hk); (try clear hi)) | ((with_reducible refine gate_dst (N := 39) rfl ?_); refine Kd.R_lit (Kd.int .u8) _ 5 ?hg (N := 39) ?hd (xs := ([(t152) % 256, (t152 / 256) % 256, (t152 / 65536) % 256, (t152 / 16777216) % 256] : List Int)) (inner := [.int .u8 ((t152) % 256), .int .u8 ((t152 / 256) % 256), .int .u8 ((t152 / 65536) % 256), .int .u8 ((t152 / 16777216) % 256)]) (ok := fun _ => True) (okp := fun _ => True) ?hr ?hp (fun _ hk => hk) trivial (Below.refl _ _) (Nat.le_refl _) (by simp) ?_; (case hd => rfl); (case hg => rfl); (case hr => first | (go_simp; done) | (go_simp; rfl)); (case hp => exact (Reps.one (show Kd.M (Kd.int .u8) _ _ _ ((t152) % 256) [.int .u8 ((t152) % 256)] from rfl) (Reps.one (show Kd.M (Kd.int .u8) _ _ _ ((t152 / 256) % 256) [.int .u8 ((t152 / 256) % 256)] from rfl) (Reps.one (show Kd.M (Kd.int .u8) _ _ _ ((t152 / 65536) % 256) [.int .u8 ((t152 / 65536) % 256)] from rfl) (Reps.one (show Kd.M (Kd.int .u8) _ _ _ ((t152 / 16777216) % 256) [.int .u8 ((t152 / 16777216) % 256)] from rfl) (Reps.none _ _)))))); intro v155 w8 ho9 hb hg_ hnew_; clear hg_ hnew_; (first | rw [← Ny154.out] at ho9 | (simp only [Int.reduceToNat] at ho9; rw [← Ny154.out] at ho9)); have n0_ := Aside0.mk (Kd.R_elder' (by (with_reducible repeat (first | apply Kd.R_alloc | apply Kd.R_drewN | apply Kd.R_drew)); exact HO_5.out) (Kd.R_base ho9) hb); have n1_ := Aside0.mk (Kd.R_lower (Kd.R_new' ho9 (Kd.R_lt (by (with_reducible repeat (first | apply Kd.R_alloc | apply Kd.R_drewN | apply Kd.R_drew)); exact HO_5.out))) (below_size (by repeat (first | (with_reducible first | exact HB.out | apply below_alloc | apply pw_below_drewN | apply below_drew1) | exact HB.out)))); have n2_ := Aside0.mk (below_step (by repeat (first | (with_reducible first | exact HB.out | apply below_alloc | apply pw_below_drewN | apply below_drew1) | exact HB.out)) hb); clear HO_5; clear HB; have HO_5 := n0_; have HO156 := n1_; have HB := n2_; clear n0_ n1_ n2_; clear hb ho9; obtain ⟨Ao11, co11, eo11⟩ := Kd.R_slice HO156.out; subst eo11) | ((with_reducible refine gate_builtin (b := .append) (xs := #[.tmp 27, .tmp 39]) rfl ?_); at_builtin; refine Kd.R_append_rows (Kd.int .u8) (w0 := w) w.heap.size rfl (.tmp 27) (.tmp 39) 22 5 (.int .u8 0) 1 rfl Tryz.underlying22 info5 rfl (by decide) (by omega) u5 x5_1 y154 _ _ _ (fun k_ => some k_ ≠ (.slice Ao11 y154.length co11 : Value).ownBlock) (fun _ => False) rfl rfl ?aO ?aR (fun _ _ h => h) (fun _ h => h.elim) ?aF ?aB ?aS ?aL ?_; (case aR => repeat (first | exact (Kd.R_reads' HO156.out).2.2 | (with_reducible refine Kd.C_alloc ?_ _) | (with_reducible refine Kd.C_drewN ?_ _) | (with_reducible refine Kd.C_drew ?_))); (case aB => exact (by repeat (first | (with_reducible first | exact HB.out | apply below_alloc | apply pw_below_drewN | apply below_drew1) | exact HB.out))); (case aF => exact (fun k_ hk => Kd.fresh' (Kd.R_lt (by (with_reducible repeat (first | apply Kd.R_alloc | apply Kd.R_drewN | apply Kd.R_drew)); exact HO156.out)) k_ hk)); (case aO => exact (by (with_reducible repeat (first | apply Kd.R_alloc | apply Kd.R_drewN | apply Kd.R_drew)); exact Kd.R_mono HO_5.out (fun _ hk => hk.2))); (case aS => exact (below_size (by repeat (first | (with_reducible first | exact HB.out | apply below_alloc | apply pw_below_drewN | apply below_drew1) | exact HB.out)))); (case aL => have := LMc6.out; omega); intro v158 w10 ho hb hg hat; rw [← Ny157.out] at ho; have n0_ := Aside0.mk (Kd.R_after (ok := (fun _ => True)) (by (with_reducible repeat (first | apply Kd.R_alloc | apply Kd.R_drewN | apply Kd.R_drew)); exact HO156.out) hg hat); have n1_ := Aside0.mk (hb); have n2_ := Aside0.mk (ho); clear HO156; clear HB; clear HO_5; have HO156 := n0_; have HB := n1_; have HO159 := n2_; clear n0_ n1_ n2_; clear ho hb hg hat))
           go_roundg k1
           case measure => have := HK1.out; omega
           case rel => exact ⟨(y157), (wrap64 (x6_1 + 1)), (by first | rfl | (simp; done) | (simp [*]; done)), H', ⟨by have := HK1.out; omega⟩, ⟨by (with_reducible repeat (first | apply Kd.R_alloc | apply Kd.R_drewN | apply Kd.R_drew)); exact Kd.R_mono HO159.out (fun _ hk => trivial)⟩, ⟨by repeat (first | (with_reducible first | exact HB.out | apply below_alloc | apply pw_below_drewN | apply below_drew1) | exact HB.out)⟩⟩
         · rw [if_neg c6] at H
           exact absurd H (by simp)
       · rw [if_neg c5] at H
         have c5b0 : (t153 == 0) = false := beq_eq_false_iff_ne.mpr c5
         have c5b1 : (t153 != 0) = true := bne_iff_ne.mpr c5
         simp only [Option.some.injEq, Prod.mk.injEq] at H
         obtain ⟨rfl, rfl, rfl⟩ := H
         have p151 : 0 ≤ (x6_1 : Int) := of_decide_eq_true (by first | (with_reducible assumption) | assumption)
         have q151 : x6_1 < (l0.length : Int) := of_decide_eq_true (by first | (with_reducible assumption) | assumption)
         obtain ⟨ad151, e151, hx151_0, hx151_1, hx151_2, hx151_3, hx151_4⟩ := at_T42 HR0.out x6_1 p151 q151
         cases e151
         replace hx151_0 := (HB.out.cell (World.block_lt_of_cell? w _ hx151_0)).trans hx151_0
         replace hx151_1 := (HB.out.cell (World.block_lt_of_cell? w _ hx151_1)).trans hx151_1
         replace hx151_2 := (HB.out.cell (World.block_lt_of_cell? w _ hx151_2)).trans hx151_2
         replace hx151_3 := (HB.out.cell (World.block_lt_of_cell? w _ hx151_3)).trans hx151_3
         replace hx151_4 := (HB.out.cell (World.block_lt_of_cell? w _ hx151_4)).trans hx151_4
         replace p151 := eq_true p151
         replace q151 := eq_true q151
         go_wp2_with (first | ((with_reducible refine gate_callee (f := 17) rfl ?_); refine goesL_ (some 20) rfl rfl Tryz.func17 (by kernel_rfl) rfl #[.agg #[.int .i64 ((rd_T42 l0 x6_1).f0), .int .i64 ((rd_T42 l0 x6_1).f1), .int .i64 ((rd_T42 l0 x6_1).f2), .int .i64 ((rd_T42 l0 x6_1).f3), .int .i64 ((rd_T42 l0 x6_1).f4)]] rfl (by (try simp only [List.map_toArray, List.map_cons, List.map_nil]); first | done | rfl | (simp only [List.length_drop, List.length_take]; rfl)) ?_; (with_reducible refine (ravelinref15_Encode.calls k1 ((rd_T42 l0 x6_1).f0) ((rd_T42 l0 x6_1).f1) ((rd_T42 l0 x6_1).f2) ((rd_T42 l0 x6_1).f3) ((rd_T42 l0 x6_1).f4) t152 t153 _ A4.out).mono ?_); rintro e w12 ⟨rfl, hb⟩; refine ⟨_, rfl, ?_⟩; have n0_ := Aside0.mk (Kd.R_below (by (with_reducible repeat (first | apply Kd.R_alloc | apply Kd.R_drewN | apply Kd.R_drew)); exact HO_5.out) hb); have n1_ := Aside0.mk (below_step (by repeat (first | (with_reducible first | exact HB.out | apply below_alloc | apply pw_below_drewN | apply below_drew1) | exact HB.out)) hb); clear HO_5; clear HB; have HO_5 := n0_; have HB := n1_; clear n0_ n1_; (try clear hb); (try clear hb2); (try clear hk); (try clear hi)))
         go_ret3
         exact ⟨_, by first | rfl | (simp [errW_none, errW_some] <;> rfl) | (simp [*, errW_none, errW_some] <;> rfl), by exact Kd.R_nil _ _ _ _ _, by repeat (first | (with_reducible first | exact HB.out | apply below_alloc | apply pw_below_drewN | apply below_drew1) | exact HB.out)⟩
     · rw [if_neg c3] at H
       exact absurd H (by simp)
   · rw [if_neg c2] at H
     have c2b0 : decide (x6_1 < (l0.length : Int)) = false := decide_eq_false c2
     clear c2
     simp only [Option.some.injEq, Prod.mk.injEq] at H
     obtain ⟨rfl, rfl, rfl⟩ := H
     go_wp2
     go_ret3
     exact ⟨_, by first | rfl | (simp [errW_none, errW_some] <;> rfl) | (simp [*, errW_none, errW_some] <;> rfl), by (with_reducible repeat (first | apply Kd.R_alloc | apply Kd.R_drewN | apply Kd.R_drew)); exact HO_5.out, by repeat (first | (with_reducible first | exact HB.out | apply below_alloc | apply pw_below_drewN | apply below_drew1) | exact HB.out)⟩
end Go.Proofs.YtcgkgaibomcheaaGreat.PRvemuRuns
end
section
namespace Go.Proofs.YtcgkgaibomcheaaGreat.HeadP
open Go.RowKit Bits Mac NewM Go.Proofs.YtcgkgaibomcheaaGreat.Pure PRvemuRuns
def code : List Int := [19, 5, 80, 0, 103, 128, 0, 0]
def insns : List S42 := [⟨2, 10, 0, 0, 5⟩, ⟨34, 0, 1, 0, 0⟩]
set_option maxRecDepth 100000 in
theorem bytes : ravelinref15_Bytes.f 200 insns = some (code, 0, 0) := by decide +kernel
def m0 : Mac := newM code [] [] [] 0 9
set_option maxRecDepth 100000 in
theorem ends : (it 2 m0).done = true ∧ (it 2 m0).err = 0 ∧ (it 2 m0).steps = 2 ∧ (it 2 m0).x 10 = 5#64 := by decide +kernel
theorem run : (runM m0).err = 0 ∧ (runM m0).steps = 2 ∧ (runM m0).x 10 = 5#64 := by
 have h := ends
 rw [runM_of m0 rfl h.1]
 exact h.2
end Go.Proofs.YtcgkgaibomcheaaGreat.HeadP
end
section
namespace Go.Proofs.YtcgkgaibomcheaaGreat.Clone
open Go.RowKit Bits PRvemuRuns YtcgkgaibomcheaaGreatW.PrintWords YtcgkgaibomcheaaGreatW.PrintLast YtcgkgaibomcheaaGreatW.PrintMore
theorem inf5 : (Tryz.prog.info? 5).map (fun i => (i.zero, i.size, i.bytes)) = some (some (.int .u8 0), 1, 1) := by kernel_rfl
theorem inf52 : (Tryz.prog.info? 52).map (fun i => (i.zero, i.size, i.bytes)) = some (some (.int .u64 0), 1, 8) := by kernel_rfl
theorem none_nil {α : Type} {d : Kd α} {w : World} {l : List α} (h : d.C w none l.length l) : l = [] := by
 by_cases hl : 0 < l.length
 · obtain ⟨ad, e, _⟩ := h.2.2 hl
   cases e
 · exact List.eq_nil_of_length_eq_zero (by omega)
set_option maxRecDepth 20000 in
theorem clone33 (A : Option Addr) (c : Nat) (l : List Int) (w : World) (hr : (Kd.int .u8).C w A l.length l) (hl : l.length * 1 ≤ 140737488355328) :
 Calls Tryz.prog 33 #[.slice A l.length c] w fun e w' => ∃ v : Value, e = .returned v ∧ (Kd.int .u8).R 5 w' w.heap.size (fun _ => True) v l ∧ Below w.heap.size w w' := by
 have qT : ∀ (w : World) (a : Option Addr) (n c n' c' : Nat), (binOp .eql 22 (.slice a n c) (.slice none n' c')).run Tryz.prog w = .ok (.bool a.isNone) w := fun w a n c n' c' => Lib.run_eql_slice_nil w _ _ a n c n' c' Tryz.underlying22
 cases A with
 | none =>
  have hn := none_nil hr
  subst hn
  clear hr hl
  go_enter Tryz.func33, Tryz.ntmps33
  go_wp2
  go_ret
  exact ⟨_, rfl, Kd.R_nil _ _ _ _ _, Below.refl _ _⟩
 | some ad =>
  have HR := Aside0.mk hr
  clear hr
  go_enter Tryz.func33, Tryz.ntmps33
  go_wp2_with (first | ((with_reducible refine gate_dst (N := 5) rfl ?_); refine Kd.R_lit (Kd.int .u8) (w0 := w) w.heap.size 5 ?hg (N := 5) ?hd (xs := []) (inner := []) (ok := fun _ => True) (okp := fun _ => True) ?hr ?hp (fun _ hk => hk) trivial (Below.refl _ _) (Nat.le_refl _) (by simp) ?_; (case hd => rfl); (case hg => rfl); (case hr => first | (go_simp; done) | (go_simp; rfl)); (case hp => exact (Reps.none _ _)); intro v5 w5 ho5 hb5 hg5_ hn5_; clear hg5_ hn5_; have HO5 := Aside0.mk ho5; have HB5 := Aside0.mk hb5; clear ho5 hb5) | ((with_reducible refine gate_builtin (b := .append) (xs := #[.tmp 5, .tmp 6]) rfl ?_); at_builtin; refine Kd.R_append_rows (Kd.int .u8) (Rr := (Kd.int .u8).K w5) (w0 := w) w.heap.size rfl (.tmp 5) (.tmp 6) 22 5 (.int .u8 0) 1 rfl Tryz.underlying22 inf5 rfl (by decide) (by omega) v5 [] l _ _ _ (fun _ => True) (fun _ => False) rfl rfl ?aO ?aR (fun _ _ h => h) (fun _ h => h.elim) ?aF ?aB ?aS ?aL ?_; (case aO => exact HO5.out); (case aR => exact Kd.C_below HR.out HB5.out); (case aF => exact fun _ _ => trivial); (case aB => exact HB5.out); (case aS => exact HB5.out.size); (case aL => simp only [List.length_nil]; omega); intro v7 w7 ho7 hb7 hg7_ ha7_; clear hg7_ ha7_; have HO7 := Aside0.mk ho7; have HB7 := Aside0.mk hb7; clear ho7 hb7 HO5 HB5))
  go_ret
  exact ⟨_, rfl, HO7.out, HB7.out⟩
set_option maxRecDepth 20000 in
theorem clone37 (A : Option Addr) (c : Nat) (l : List Int) (w : World) (hr : (Kd.int .u64).C w A l.length l) (hl : l.length * 8 ≤ 140737488355328) :
 Calls Tryz.prog 37 #[.slice A l.length c] w fun e w' => ∃ v : Value, e = .returned v ∧ (Kd.int .u64).R 52 w' w.heap.size (fun _ => True) v l ∧ Below w.heap.size w w' := by
 have qT : ∀ (w : World) (a : Option Addr) (n c n' c' : Nat), (binOp .eql 23 (.slice a n c) (.slice none n' c')).run Tryz.prog w = .ok (.bool a.isNone) w := fun w a n c n' c' => Lib.run_eql_slice_nil w _ _ a n c n' c' Tryz.underlying23
 cases A with
 | none =>
  have hn := none_nil hr
  subst hn
  clear hr hl
  go_enter Tryz.func37, Tryz.ntmps37
  go_wp2
  go_ret
  exact ⟨_, rfl, Kd.R_nil _ _ _ _ _, Below.refl _ _⟩
 | some ad =>
  have HR := Aside0.mk hr
  clear hr
  go_enter Tryz.func37, Tryz.ntmps37
  go_wp2_with (first | ((with_reducible refine gate_dst (N := 5) rfl ?_); refine Kd.R_lit (Kd.int .u64) (w0 := w) w.heap.size 52 ?hg (N := 5) ?hd (xs := []) (inner := []) (ok := fun _ => True) (okp := fun _ => True) ?hr ?hp (fun _ hk => hk) trivial (Below.refl _ _) (Nat.le_refl _) (by simp) ?_; (case hd => rfl); (case hg => rfl); (case hr => first | (go_simp; done) | (go_simp; rfl)); (case hp => exact (Reps.none _ _)); intro v5 w5 ho5 hb5 hg5_ hn5_; clear hg5_ hn5_; have HO5 := Aside0.mk ho5; have HB5 := Aside0.mk hb5; clear ho5 hb5) | ((with_reducible refine gate_builtin (b := .append) (xs := #[.tmp 5, .tmp 6]) rfl ?_); at_builtin; refine Kd.R_append_rows (Kd.int .u64) (Rr := (Kd.int .u64).K w5) (w0 := w) w.heap.size rfl (.tmp 5) (.tmp 6) 23 52 (.int .u64 0) 8 rfl Tryz.underlying23 inf52 rfl (by decide) (by omega) v5 [] l _ _ _ (fun _ => True) (fun _ => False) rfl rfl ?aO ?aR (fun _ _ h => h) (fun _ h => h.elim) ?aF ?aB ?aS ?aL ?_; (case aO => exact HO5.out); (case aR => exact Kd.C_below HR.out HB5.out); (case aF => exact fun _ _ => trivial); (case aB => exact HB5.out); (case aS => exact HB5.out.size); (case aL => simp only [List.length_nil]; omega); intro v7 w7 ho7 hb7 hg7_ ha7_; clear hg7_ ha7_; have HO7 := Aside0.mk ho7; have HB7 := Aside0.mk hb7; clear ho7 hb7 HO5 HB5))
  go_ret
  exact ⟨_, rfl, HO7.out, HB7.out⟩
set_option maxRecDepth 20000 in
theorem clone38 (A : Option Addr) (c : Nat) (l : List S54) (w : World) (hr : k54.C w A l.length l) (hl : l.length * 24 ≤ 140737488355328) :
 Calls Tryz.prog 38 #[.slice A l.length c] w fun e w' => ∃ v : Value, e = .returned v ∧ k54.R 54 w' w.heap.size (fun _ => True) v l ∧ Below w.heap.size w w' := by
 have qT : ∀ (w : World) (a : Option Addr) (n c n' c' : Nat), (binOp .eql 29 (.slice a n c) (.slice none n' c')).run Tryz.prog w = .ok (.bool a.isNone) w := fun w a n c n' c' => Lib.run_eql_slice_nil w _ _ a n c n' c' Tryz.underlying29
 cases A with
 | none =>
  have hn := none_nil hr
  subst hn
  clear hr hl
  go_enter Tryz.func38, Tryz.ntmps38
  go_wp2
  go_ret
  exact ⟨_, rfl, Kd.R_nil _ _ _ _ _, Below.refl _ _⟩
 | some ad =>
  have HR := Aside0.mk hr
  clear hr
  go_enter Tryz.func38, Tryz.ntmps38
  go_wp2_with (first | ((with_reducible refine gate_dst (N := 5) rfl ?_); refine Kd.R_lit k54 (w0 := w) w.heap.size 54 ?hg (N := 5) ?hd (xs := []) (inner := []) (ok := fun _ => True) (okp := fun _ => True) ?hr ?hp (fun _ hk => hk) trivial (Below.refl _ _) (Nat.le_refl _) (by simp) ?_; (case hd => rfl); (case hg => rfl); (case hr => first | (go_simp; done) | (go_simp; rfl)); (case hp => exact (Reps.none _ _)); intro v5 w5 ho5 hb5 hg5_ hn5_; clear hg5_ hn5_; have HO5 := Aside0.mk ho5; have HB5 := Aside0.mk hb5; clear ho5 hb5) | ((with_reducible refine gate_builtin (b := .append) (xs := #[.tmp 5, .tmp 6]) rfl ?_); at_builtin; refine Kd.R_append_rows k54 (Rr := k54.K w5) (w0 := w) w.heap.size rfl (.tmp 5) (.tmp 6) 29 54 (.agg #[.bool false, .int .u64 0, .int .i64 0]) 24 rfl Tryz.underlying29 Rd.info54 rfl (by decide) (by omega) v5 [] l _ _ _ (fun _ => True) (fun _ => False) rfl rfl ?aO ?aR (fun x cs h => by rw [k54_open h]; exact k54_mkM _ _ _ x) (fun _ h => h.elim) ?aF ?aB ?aS ?aL ?_; (case aO => exact HO5.out); (case aR => exact Kd.C_below HR.out HB5.out); (case aF => exact fun _ _ => trivial); (case aB => exact HB5.out); (case aS => exact HB5.out.size); (case aL => simp only [List.length_nil]; omega); intro v7 w7 ho7 hb7 hg7_ ha7_; clear hg7_ ha7_; have HO7 := Aside0.mk ho7; have HB7 := Aside0.mk hb7; clear ho7 hb7 HO5 HB5))
  go_ret
  exact ⟨_, rfl, HO7.out, HB7.out⟩
end Go.Proofs.YtcgkgaibomcheaaGreat.Clone
end
