/-
  How an argument that is a slice of runs is opened.
-/
import Derived.Test.YtaimijgjpjhppaaSpanPlain
import Derived.Deep.Slices
import Derived.Deep.Fields
namespace Go.Proofs.Ytaimijgjpjhppaa.op
set_option linter.unusedVariables false
set_option linter.unusedSimpArgs false
open Go.ChangeShapes Go.WideShapes Go.Deep bs
section
variable {H : Type} {enc : TypeId × Value → H} {P : Program} {w : World} {base : Nat} {spare : Nat → Bool} {held : Bool}
theorem open_slice_fields {t e : TypeId} {fs : Array Field} {fuel : Nat} {cs : List Value} {x : DataW H × List MemPlace} (ht : P.underlying t = some (.slice e)) (he : P.underlying e = some (.struct fs))
    (hone : oneCellFields P fs = true) (hC : P.cellsOf e = fs.size) (h : DataW.trod enc P w base spare held fuel t cs = some x) :
    (cs = [.slice none 0 0] ∧ x = (.nil, [])) ∨
    ∃ (a : Addr) (len cap m : Nat) (D : Nat → DataW H) (Pl : Nat → List MemPlace), cs = [.slice (some a) len cap] ∧ base ≤ a.block ∧ len ≤ cap ∧ cap ≤ maxLen ∧ m = (if spare a.block then cap else len) ∧
      x = (.slice ((List.range len).map D) ((List.range (m - len)).map fun j => D (len + j)), MemPlace.row a (m * fs.size) ++ (List.range m).flatMap Pl) ∧
      ∀ i, i < m → ∃ (ys : List (DataW H × List MemPlace)) (n : Nat), D i = .agg (ys.map (·.1)) ∧ Pl i = ys.flatMap (·.2) ∧ ys.length = fs.size ∧
        ∀ (j : Nat) (f : Field), fs[j]? = some f → ∃ (v : Value) (y : DataW H × List MemPlace), w.cell? (a.add (i * fs.size + j)) = some v ∧ ys[j]? = some y ∧ DataW.trod enc P w base spare held n f.type [v] = some y := by
  rcases open_slice ht h with h0 | ⟨a, len, cap, m, n, D, Pl, hcs, hb, hl, hm, hmm, hx, hi⟩
  · exact .inl h0
  · refine .inr ⟨a, len, cap, m, D, Pl, hcs, hb, hl, hm, hmm, by rw [hC] at hx; exact hx, fun i him => ?_⟩
    obtain ⟨cs', hc, ht'⟩ := hi i him
    rw [hC] at hc
    obtain ⟨ys, n', hn', hy, hlen, hyl, hf⟩ := DataW.trod_struct he ht'
    obtain ⟨_, hcl, hat⟩ := World.cells?_some hc
    simp only [Prod.mk.injEq] at hy
    refine ⟨ys, n', hy.1, hy.2, hyl, fun j f hj => ?_⟩
    obtain ⟨ho, hk⟩ := hone_of hone j f hj
    have hjl : j < fs.size := (Array.getElem?_eq_some_iff.1 hj).1
    have hcell := hat j hjl
    have hv : cs'[j]? = some (cs'[j]'(by omega)) := List.getElem?_eq_getElem (by omega)
    have h1 := hf j f hj
    rw [ho, hk] at h1
    have hone' : (cs'.drop j).take 1 = [cs'[j]'(by omega)] := by
      rw [List.drop_eq_getElem_cons (by omega)]
      rfl
    rw [hone'] at h1
    have hys : ys[j]? = some (ys[j]'(by omega)) := List.getElem?_eq_getElem (by omega)
    refine ⟨_, _, ?_, hys, h1.trans hys⟩
    rw [← Go.Deep.add_add, hcell, hv]
end

section
variable {H : Type} {enc : TypeId × Value → H} {w : World} {r : Reach} {b0 : Nat} {v : Value} {d : DataW H} {p : List MemPlace}
theorem lt_of_cell {w : World} {a : Addr} {v : Value} (h : w.cell? a = some v) : a.block < w.heap.size := block_lt_of_cell h
theorem open_runs (hv : Value.okWide Try.prog w r b0 22 v) (h : DataW.Trod enc Try.prog w 0 (fun _ => true) true 22 v d p) :
    ∃ (A : Option Addr) (n c : Nat) (l : List (Int × Int)), v = .slice A n c ∧ sp.Runs w A n c l ∧ n ≤ 9223372036854775807 := by
  obtain ⟨A, n, c, rfl⟩ := okWide_slice Try.underlying22 hv
  obtain ⟨fuel, hf⟩ := h
  have hft : DataW.trod enc Try.prog w 0 (fun _ => true) true fuel 22 [.slice A n c] = some (d, p) := by simpa [Value.cells] using hf
  rcases open_slice_fields (fs := Try.prog.fieldsOf 26) Try.underlying22 (by kernel_rfl) (by kernel_rfl) (by kernel_rfl) hft with ⟨hcs, _⟩ | ⟨a, len, cap, m, D, Pl, hcs, _, hlc, hmx, hm, _, hi⟩
  · simp only [List.cons.injEq, Value.slice.injEq, and_true] at hcs
    obtain ⟨rfl, rfl, rfl⟩ := hcs
    exact ⟨none, 0, 0, [], rfl, sp.Runs.nil_, by omega⟩
  · simp only [List.cons.injEq, Value.slice.injEq, and_true] at hcs
    obtain ⟨hA, hn0, hc0⟩ := hcs
    subst hA hn0 hc0
    rw [if_pos rfl] at hm
    rw [hm] at hi
    have hfs : (Try.prog.fieldsOf 26).map (·.type) = #[3, 3] := by kernel_rfl
    have hsz : (Try.prog.fieldsOf 26).size = 2 := by kernel_rfl
    have key : ∀ i, i < c → ∃ x y : Int, w.cell? (a.add (i * 2)) = some (.int .i64 x) ∧ w.cell? (a.add (i * 2 + 1)) = some (.int .i64 y) := by
      intro i hic
      obtain ⟨ys, k, _, _, hyl, hf2⟩ := hi i hic
      rw [hsz] at hf2
      have f0 : (Try.prog.fieldsOf 26)[0]? = some ((Try.prog.fieldsOf 26)[0]'(by rw [hsz]; omega)) := Array.getElem?_eq_getElem _
      have f1 : (Try.prog.fieldsOf 26)[1]? = some ((Try.prog.fieldsOf 26)[1]'(by rw [hsz]; omega)) := Array.getElem?_eq_getElem _
      have t0 : ((Try.prog.fieldsOf 26)[0]'(by rw [hsz]; omega)).type = 3 := by
        have := congrArg (·[0]?) hfs
        simpa [hsz] using this
      have t1 : ((Try.prog.fieldsOf 26)[1]'(by rw [hsz]; omega)).type = 3 := by
        have := congrArg (·[1]?) hfs
        simpa [hsz] using this
      obtain ⟨v0, y0, g0, _, h0⟩ := hf2 0 _ f0
      obtain ⟨v1, y1, g1, _, h1⟩ := hf2 1 _ f1
      rw [t0] at h0
      rw [t1] at h1
      obtain ⟨x, e0, _, _⟩ := DataW.trod_int Try.underlying3 h0
      obtain ⟨y, e1, _, _⟩ := DataW.trod_int Try.underlying3 h1
      simp only [List.cons.injEq, and_true] at e0 e1
      subst e0 e1
      exact ⟨x, y, g0, g1⟩
    have hx : ∃ f : Nat → Int × Int, ∀ i, i < c → w.cell? (a.add (i * 2)) = some (.int .i64 (f i).1) ∧ w.cell? (a.add (i * 2 + 1)) = some (.int .i64 (f i).2) := by
      refine ⟨fun i => if h : i < c then (Classical.choose (key i h), Classical.choose (Classical.choose_spec (key i h))) else (0, 0), fun i hic => ?_⟩
      simp only [dif_pos hic]
      exact Classical.choose_spec (Classical.choose_spec (key i hic))
    obtain ⟨f, hx⟩ := hx
    refine ⟨some a, n, c, (List.range n).map f, rfl, ⟨by simp, hlc, fun hn => ?_⟩, by unfold maxLen at hmx; omega⟩
    obtain ⟨b, o, spot⟩ := a
    have hspot : spot = none := by simpa [Addr.add] using World.cell?_spot (hx 0 (by omega)).1
    subst hspot
    have hlt := lt_of_cell (hx 0 (by omega)).1
    rw [block_of_add] at hlt
    refine ⟨b, o, rfl, hlt, fun j hj => ?_⟩
    obtain ⟨g1, g2⟩ := hx j (by have : j < n := by simpa using hj
                                omega)
    rw [Go.WideShapes.add_plain] at g1 g2
    simp only [List.getElem_map, List.getElem_range]
    exact ⟨g1, by rw [Nat.add_assoc]; exact g2⟩
end
end Go.Proofs.Ytaimijgjpjhppaa.op
