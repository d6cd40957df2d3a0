/-
  Slices of bytes, of runs and of rows, as lists: what a slice value reads as in a world, and that it stays so.
-/
import Derived.Test.YtegpjjkbbdfggaaBase
import Derived.Laws.Tables
import Derived.Laws.CopyOwn
namespace Go.Proofs.Ytegpjjkbbdfggaa.bs
set_option linter.unusedVariables false
set_option linter.unusedSimpArgs false
open Go.RowKit

/-- the slice at A, of length n and capacity c, holds the bytes bs -/
def Bytes (w : World) (A : Option Addr) (n c : Nat) (bs : List UInt8) : Prop :=
  bs.length = n ∧ n ≤ c ∧ (0 < n → ∃ b o, A = some ⟨b, o, none⟩ ∧ b < w.heap.size ∧ ∀ (j : Nat) (h : j < bs.length), w.cell? ⟨b, o + j, none⟩ = some (.int .u8 (bs[j].toNat : Int)))

theorem Bytes.below {w w' : World} {A : Option Addr} {n c : Nat} {bs : List UInt8} (h : Bytes w A n c bs) (hb : Below w.heap.size w w') : Bytes w' A n c bs := by
  obtain ⟨h1, h2, h3⟩ := h
  refine ⟨h1, h2, fun hn => ?_⟩
  obtain ⟨b, o, e, hlt, hc⟩ := h3 hn
  exact ⟨b, o, e, Nat.lt_of_lt_of_le hlt hb.size, fun j hj => (hb.cell (p := ⟨b, o + j, none⟩) hlt).trans (hc j hj)⟩
theorem Bytes.nil_ {w : World} {A : Option Addr} {c : Nat} : Bytes w A 0 c [] := ⟨rfl, Nat.zero_le _, fun h => absurd h (by omega)⟩
theorem Bytes.at_ {w : World} {A : Option Addr} {n c : Nat} {bs : List UInt8} (h : Bytes w A n c bs) (hn : 0 < n) :
    ∃ b o, A = some ⟨b, o, none⟩ ∧ b < w.heap.size ∧ ∀ (j : Nat) (h : j < n), w.cell? ⟨b, o + j, none⟩ = some (.int .u8 ((bs.getD j 0).toNat : Int)) := by
  obtain ⟨h1, h2, h3⟩ := h
  obtain ⟨b, o, e, hlt, hc⟩ := h3 hn
  refine ⟨b, o, e, hlt, fun j hj => ?_⟩
  rw [hc j (by omega)]
  simp [List.getD, List.getElem?_eq_getElem (show j < bs.length by omega)]
theorem u8_lt (x : UInt8) : (x.toNat : Int) ≤ 255 := by have := x.toNat_lt; omega
theorem u8_of (v : Int) (h0 : 0 ≤ v) (h1 : v ≤ 255) : ((UInt8.ofNat v.toNat).toNat : Int) = v := by
  rw [UInt8.toNat_ofNat']; omega
/-- a block that was made whole, read as bytes -/
theorem Bytes.of_blk {w : World} {g n c : Nat} {t : TypeId} {cs : Array Value} {bs : List UInt8} (h : Blk w g t cs) (hl : bs.length = n) (hc : n ≤ c)
    (hcs : ∀ (j : Nat) (h : j < bs.length), cs[j]? = some (.int .u8 (bs[j].toNat : Int))) : Bytes w (some ⟨g, 0, none⟩) n c bs :=
  ⟨hl, hc, fun _ => ⟨g, 0, rfl, h.lt, fun j hj => by rw [Nat.zero_add, h.cell]; exact hcs j hj⟩⟩

theorem Blk.row {w : World} {g : Nat} {t : TypeId} {cs : Array Value} (h : Blk w g t cs) (cs' : Array Value) : Blk (w.setRow g cs') g t cs' := setRow_heap w g cs cs' t (0, 0) h
theorem Blk.rowFar {w : World} {g k : Nat} {t : TypeId} {cs : Array Value} (h : Blk w k t cs) (hk : k ≠ g) (cs' : Array Value) : Blk (w.setRow g cs') k t cs := (setRow_other w g k cs' hk).trans h
theorem brow {a w : World} {g : Nat} (h : Below a.heap.size a w) (hg : a.heap.size ≤ g) (cs : Array Value) : Below a.heap.size a (w.setRow g cs) := below_setRow h hg cs

/-! ### a function whose first result is a struct in a block of its own -/
section
variable {P : Program}
theorem ret_struct2 {fn : Func} {R : Ending → World → Prop} {a : Act} {w : World} {p u : Tmp} {ty t : TypeId} {g : Nat} {cs : Array Value} {d : TypeDesc} (hres : fn.results = #[.cell p ty, .tmp u])
    (hp : a.tmps.getD p undef = .pointer (some ⟨g, 0, none⟩)) (hg : Blk w g t cs)
    (hu : P.underlying ty = some d) (hd : (match d with | .struct _ | .array _ _ => true | _ => false) = true) (hi : (P.info? ty).map (·.size) = some cs.size)
    (hdef : a.defers = []) (hR : R (.returned (.tuple #[.agg cs, a.tmps.getD u undef])) w) : bodyPost P fn R .ret a w := by
  refine bodyPost_ret (v := .tuple #[.agg cs, a.tmps.getD u undef]) ?_ hdef hR
  have hl := run_loadVar_row (P := P) w g t ty cs (0, 0) d hg hu hd hi
  rw [results_cell_tmp hres, hp]
  simp [asAddr, hl]
theorem ret_struct1 {fn : Func} {R : Ending → World → Prop} {a : Act} {w : World} {p : Tmp} {ty t : TypeId} {g : Nat} {cs : Array Value} {d : TypeDesc} (hres : fn.results = #[.cell p ty])
    (hp : a.tmps.getD p undef = .pointer (some ⟨g, 0, none⟩)) (hg : Blk w g t cs)
    (hu : P.underlying ty = some d) (hd : (match d with | .struct _ | .array _ _ => true | _ => false) = true) (hi : (P.info? ty).map (·.size) = some cs.size)
    (hdef : a.defers = []) (hR : R (.returned (.agg cs)) w) : bodyPost P fn R .ret a w :=
  bodyPost_ret (v := .agg cs) (results_cell_row hres a.tmps w g t cs (0, 0) d hp hg hu hd hi) hdef hR
end

end Go.Proofs.Ytegpjjkbbdfggaa.bs
