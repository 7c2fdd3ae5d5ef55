/- How arguments open: a slice of elements of any kind, read as a list of that kind. No condition but that the argument reads as data. -/
import Derived.Test.YtplplillpjnnnaaWMore
import Derived.Test.YtplplillpjnnnaaWSized
import Derived.ProofKit
import Derived.SizedLaws
import Derived.Lib.SmallJoins
import Derived.Deep.Slices
import Derived.Deep.Fields
import Derived.ChangeSame
namespace Go.Proofs.Ytplplillpjnnnaa.Args
open Go.ChangeShapes Go.WideShapes Go.RowKit Go.Deep Go.Joins Go.Proofs.YtplplillpjnnnaaW.PrintWords

theorem slice_reads {α : Type} {d : Kd α} {H : Type} {enc : TypeId × Value → H} {P : Program} {W : World} {t e : TypeId} {v : Value} {D : DataW H} {p : List MemPlace} {r : Reach}
    {ts : List TypeId} {ds : List (DataW H)} {j : Nat} (good : α → Prop)
    (hsz : (DataW.weightsEach P ts ds).all (· ≤ reachBytes) = true) (hts : ts[j]? = some t) (hds : ds[j]? = some D)
    (ht : P.underlying t = some (.slice e)) (hC : P.cellsOf e = d.sz)
    (el : ∀ (fuel : Nat) (cs : List Value) (x : DataW H × List MemPlace), DataW.trod enc P W 0 (fun _ => true) true fuel e cs = some x → ∃ y, d.K W y cs ∧ good y)
    (ho : Value.okWide P W r 0 t v) (h : DataW.Trod enc P W 0 (fun _ => true) true t v D p) :
    ∃ (A : Option Addr) (cap : Nat) (xs : List α), v = .slice A xs.length cap ∧ xs.length ≤ cap ∧ cap ≤ maxLen ∧ cap * P.bytesOf e ≤ reachBytes ∧ d.C W A xs.length xs ∧ (∀ x ∈ xs, good x) := by
  obtain ⟨a0, len0, cap0, rfl⟩ := okWide_slice ht ho
  obtain ⟨fuel, hf⟩ := h
  rcases open_slice ht hf with ⟨hcs, hx⟩ | ⟨a, len, cap, m, n, Df, Pl, hcs, hb, hl, hm, hmm, hx, hel⟩
  · simp [Value.cells] at hcs
    obtain ⟨rfl, rfl, rfl⟩ := hcs
    exact ⟨none, 0, [], rfl, Nat.le_refl _, by unfold maxLen; omega, by simp, Kd.C_nil d W, by simp⟩
  · simp [Value.cells] at hcs
    obtain ⟨rfl, rfl, rfl⟩ := hcs
    simp only [if_true] at hmm
    subst hmm
    have ex : ∀ i : Fin len0, ∃ y, good y ∧ ∃ cs', W.cells? 0 (a.add (i.1 * P.cellsOf e)) (P.cellsOf e) = some cs' ∧ d.K W y cs' := by
      intro i
      obtain ⟨cs', hc, htr⟩ := hel i.1 (by have := i.2; omega)
      obtain ⟨y, hk, hg⟩ := el _ _ _ htr
      exact ⟨y, hg, cs', hc, hk⟩
    have hD : D = .slice ((List.range len0).map Df) ((List.range (m - len0)).map fun j => Df (len0 + j)) := (Prod.mk.inj hx).1
    have hz := sized_slice hsz hts (by rw [hds, hD]) ht
    refine ⟨some a, m, List.ofFn fun i => Classical.choose (ex i), by simp, by simpa using hl, hm, ?_, ?_, ?_⟩
    · have e1 : ((List.range len0).map Df).length + ((List.range (m - len0)).map fun j => Df (len0 + j)).length = m := by simp; omega
      rwa [e1] at hz
    · refine ⟨by simp, by simp; unfold maxLen at hm; omega, fun _ => ⟨a, rfl, fun j q hj => ?_⟩⟩
      obtain ⟨hjl, hjq⟩ := List.getElem?_eq_some_iff.1 hj
      have hjl' : j < len0 := by simpa using hjl
      rw [List.getElem_ofFn] at hjq
      obtain ⟨_, cs', hc, hk⟩ := Classical.choose_spec (ex ⟨j, hjl'⟩)
      subst hjq
      obtain ⟨_, hcl, hat⟩ := World.cells?_some hc
      refine ⟨cs', by rw [hcl, hC], hk, fun i u hi => ?_⟩
      have hil : i < P.cellsOf e := by
        rw [← hcl]
        exact (List.getElem?_eq_some_iff.1 hi).1
      rw [← hC, ← Go.Deep.add_add, hat i hil, hi]
    · intro x hx
      obtain ⟨i, hi⟩ := (List.mem_ofFn).1 hx
      rw [← hi]
      exact (Classical.choose_spec (ex i)).1

/-- A struct of one-cell fields, cell by cell. -/
theorem struct_cells {H : Type} {enc : TypeId × Value → H} {P : Program} {W : World} {base : Nat} {spare : Nat → Bool} {held : Bool} {t : TypeId} {fs : Array Field} {fuel : Nat} {cs : List Value} {x : DataW H × List MemPlace}
    (ht : P.underlying t = some (.struct fs)) (hone : oneCellFields P fs = true) (hC : P.cellsOf t = fs.size) (h : DataW.trod enc P W base spare held fuel t cs = some x) :
    cs.length = fs.size ∧ ∀ (j : Nat) (f : Field), fs[j]? = some f → ∃ (v : Value) (y : DataW H × List MemPlace) (n : Nat), cs[j]? = some v ∧ DataW.trod enc P W base spare held n f.type [v] = some y := by
  obtain ⟨ys, n, _, _, hlen, hyl, hf⟩ := DataW.trod_struct ht h
  refine ⟨hlen.trans hC, fun j f hj => ?_⟩
  obtain ⟨ho, hk⟩ := hone_of hone j f hj
  have hjl : j < fs.size := (Array.getElem?_eq_some_iff.1 hj).1
  have h1 := hf j f hj
  rw [ho, hk] at h1
  have hjc : j < cs.length := by omega
  have hone' : (cs.drop j).take 1 = [cs[j]'hjc] := by
    rw [List.drop_eq_getElem_cons hjc]
    rfl
  rw [hone'] at h1
  have hys : ys[j]? = some (ys[j]'(by omega)) := List.getElem?_eq_getElem (by omega)
  exact ⟨_, _, n, List.getElem?_eq_getElem hjc, h1.trans hys⟩
/-- A field that is a whole number. -/
theorem int_cell {H : Type} {enc : TypeId × Value → H} {P : Program} {W : World} {base : Nat} {spare : Nat → Bool} {held : Bool} {fuel : Nat} {v : Value} {x : DataW H × List MemPlace} {t : TypeId} {k : IntKind}
    (ht : P.underlying t = some (.int k)) (h : DataW.trod enc P W base spare held fuel t [v] = some x) : ∃ n, v = .int k n ∧ (Lit.int k n).wf = true := by
  obtain ⟨n, e, _, hw⟩ := DataW.trod_int ht h
  exact ⟨n, (List.cons.inj e).1, hw⟩
/-- A row of whole numbers of the call's own: its block. -/
theorem own_open {k : IntKind} {e base : Nat} {w : World} {ok : Nat → Prop} {v : Value} {xs : List Int} (h : Kd.R (Kd.int k) e w base ok v xs) (hne : 0 < xs.length) :
    ∃ (g cap : Nat) (cs : Array Value), v = .slice (some ⟨g, 0, none⟩) xs.length cap ∧ base ≤ g ∧ xs.length ≤ cap ∧ cap ≤ maxLen ∧ cs.size = cap ∧ w.heap[g]? = some (.cells cs e (0, 0)) ∧ ∀ j, j < xs.length → cs[j]? = some (.int k (xs.getD j 0)) := by
  obtain ⟨A, c, hv, hl, hr⟩ := Kd.R_reads h
  obtain ⟨inner, ho⟩ := Kd.R_own h
  rcases ho.2 with ⟨_, h0⟩ | ⟨g, cap, cur, he, hb, hh, h1, h2, h3, _⟩
  · omega
  · refine ⟨g, cap, cur, he, hb, h1, h2, ?_, hh, fun j hj => ?_⟩
    · have : (Kd.int k).sz = 1 := rfl
      rw [h3, this, Nat.mul_one]
    · rw [hv] at he
      injection he with ha
      subst ha
      have rr := Kd.reads_of_C (enc := Value.int k) (d := (0 : Int)) (h1 := fun _ => rfl) hr
      obtain ⟨ad, e1, hc⟩ := rr.2.2 hne
      injection e1 with e1
      subst e1
      have := hc j hj
      rw [Go.Proofs.YtplplillpjnnnaaW.PrintWords.add_plain] at this
      rw [← this]
      exact (blk_cell hh j).symm
end Go.Proofs.Ytplplillpjnnnaa.Args
