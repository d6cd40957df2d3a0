/-
  Lemmas for ImageParts: Base, Mem, Up, FixI, Row, MayI, Sample, At.
-/
import Derived.Test.YtegpjjkbbdfggaaRows
import Derived.WalkKit
import Derived.WalkSpells
import Derived.ProofKit
import Derived.Lib.Hide
import Derived.Deep.QuietTactic
import Derived.BigQuiet
import Derived.Below
import Derived.Laws.OwnMore
import Derived.Deep.AppendLies
import Derived.Deep.Draws
import Derived.Deep.OwnRows
import Derived.OwnWalk
import Derived.Laws.AppendOwn
import Derived.Laws.MakeOwn
import Derived.Laws.Entries
import Derived.Laws.Rows
import Derived.Maps.AppendAt
import Derived.RegionTactic
import Derived.ChangeSame
import Derived.Carry
import Derived.OpenShut
import Derived.Laws.Tables
import Derived.Laws.CopyOwn

/-
  Small words for memory, laid for every layer: a slice that reads as a list, a block that is known whole, frames behind draws, the last step of a law.
  Most of these lemmas are copied from the kit's pages of small lemmas (extra-words, extra-small).
-/
namespace Go.Proofs.Ytegpjjkbbdfggaa.bs
set_option linter.unusedVariables false
set_option linter.unusedSimpArgs false
open Go.RowKit

theorem ret_int {k : IntKind} {a b : Int} (h : a = b) : Ending.returned (.int k a) = .returned (.int k b) := by rw [h]
theorem ret_bool {a b : Bool} (h : a = b) : Ending.returned (.bool a) = .returned (.bool b) := by rw [h]
theorem ret_val {a b : Value} (h : a = b) : Ending.returned a = .returned b := by rw [h]

theorem bd_u8 {v : Int} (h : (Lit.int .u8 v).wf = true) : 0 ≤ v ∧ v ≤ 255 := by simpa [Lit.wf, IntKind.min, IntKind.max, IntKind.signed, IntKind.bits] using h
theorem bd_u16 {v : Int} (h : (Lit.int .u16 v).wf = true) : 0 ≤ v ∧ v ≤ 65535 := by simpa [Lit.wf, IntKind.min, IntKind.max, IntKind.signed, IntKind.bits] using h
theorem bd_i64 {v : Int} (h : (Lit.int .i64 v).wf = true) : -9223372036854775808 ≤ v ∧ v ≤ 9223372036854775807 := by simpa [Lit.wf, IntKind.min, IntKind.max, IntKind.signed, IntKind.bits] using h
theorem below_of_drewN {B : Nat} {w w' : World} {k : Nat} (h : Below B (w.drewN k) w') : Below B w w' := ⟨h.os, h.tape, h.output, h.size, h.block⟩
theorem balloc {a w : World} (h : Below a.heap.size a w) (o : Obj) : Below a.heap.size a (w.alloc o) := h.alloc h.size o
theorem bset {a w : World} {p : Addr} (h : Below a.heap.size a w) (hp : a.heap.size ≤ p.block) (u : Value) : Below a.heap.size a (w.setCell p u) := h.setCell hp u
theorem btrans {a b c : World} (h : Below a.heap.size a b) (k : Below b.heap.size b c) : Below a.heap.size a c := h.trans (k.mono h.size)
theorem btransN {a b c : World} {n : Nat} (h : Below a.heap.size a b) (k : Below (b.drewN n).heap.size (b.drewN n) c) : Below a.heap.size a c := h.trans (below_of_drewN (k.mono h.size))
theorem bcell {W w1 : World} (hb : Below W.heap.size W w1) : (∀ b o, b < W.heap.size → w1.cell? ⟨b, o, none⟩ = W.cell? ⟨b, o, none⟩) ∧ (∀ b o, b < W.heap.size → w1.frozen? ⟨b, o, none⟩ = W.frozen? ⟨b, o, none⟩) :=
  ⟨fun b o h => hb.cell (p := ⟨b, o, none⟩) h, fun b o h => hb.frozen (p := ⟨b, o, none⟩) h⟩

/-! ### frames -/
theorem below_drewN {B : Nat} {a w : World} (h : Below B a w) (n : Nat) : Below B a (w.drewN n) := ⟨h.os, h.tape, h.output, h.size, h.block⟩
theorem rowIs_drewN {w : World} {b : Nat} {t : TypeId} {n : Nat} {f : Nat → Value} (h : w.rowIs b t n f) (k : Nat) : (w.drewN k).rowIs b t n f := h
theorem grown_trans {a b c : World} (h : Grown a b) (k : Grown b c) : Grown a c :=
  ⟨World.keptBut_trans h.1 k.1, fun x => (k.2.1 x).trans (h.2.1 x), Nat.le_trans h.2.2 k.2.2⟩

theorem only_drewN {a w : World} {row : Option Nat} (h : a.grownBy w row) (n : Nat) : a.grownBy (w.drewN n) row := ⟨h.os, h.tape, h.output, h.size, h.block⟩
theorem only_drew {a w : World} {row : Option Nat} (h : a.grownBy w row) : a.grownBy w.drew row := ⟨h.os, h.tape, h.output, h.size, h.block⟩
theorem only_alloc {a w : World} {row : Option Nat} (h : a.grownBy w row) (o : Obj) : a.grownBy (w.alloc o) row :=
  ⟨h.os, h.tape, h.output, Nat.le_trans h.size (by simp), fun i hi hne => (Below.heap_alloc w o i (Nat.lt_of_lt_of_le hi h.size)).trans (h.block i hi hne)⟩
theorem only_setCell {a w : World} {g : Nat} (h : a.grownBy w (some g)) {p : Addr} (hp : p.block = g ∨ a.heap.size ≤ p.block) (u : Value) : a.grownBy (w.setCell p u) (some g) :=
  ⟨h.os, h.tape, h.output, by simpa [World.setCell] using h.size, fun i hi hne => (Below.heap_setCell w p u i (by
    rintro rfl
    rcases hp with hp | hp
    · exact hne (by rw [hp])
    · omega)).trans (h.block i hi hne)⟩
theorem only_of_below {a w : World} (h : Below a.heap.size a w) (row : Option Nat) : a.grownBy w row := ⟨h.os, h.tape, h.output, h.size, fun i hi _ => h.block i hi⟩

/-! ### slices that read as lists -/
theorem block_of_add (a : Addr) (n : Nat) : (a.add n).block = a.block := by unfold Addr.add; split <;> rfl
theorem add_of_add (a : Addr) (i j : Nat) : (a.add i).add j = a.add (i + j) := by
  unfold Addr.add
  by_cases hi : i = 0 <;> by_cases hj : j = 0 <;> simp [hi, hj, Nat.add_assoc]

def Reads (w : World) (B size : Nat) (A : Option Addr) (n : Nat) (xs : List Value) : Prop :=
  xs.length = n * size ∧ (0 < n → ∃ ad, A = some ad ∧ ad.block < B ∧ ∀ j u, xs[j]? = some u → w.cell? (ad.add j) = some u)

section
variable {w w' : World} {B B' size n : Nat} {A : Option Addr} {xs : List Value}
theorem Reads.none_ : Reads w B size A 0 [] := ⟨by simp, fun h => absurd h (by omega)⟩
theorem Reads.at_ {k : Nat} (h : Reads w B 1 A n xs) (hk : k < n) : ∃ ad u, A = some ad ∧ ad.block < B ∧ xs[k]? = some u ∧ w.cell? (ad.add k) = some u := by
  obtain ⟨ad, e, hb, hc⟩ := h.2 (by omega)
  have hl : k < xs.length := by have := h.1; omega
  exact ⟨ad, xs[k], e, hb, List.getElem?_eq_getElem hl, hc k _ (List.getElem?_eq_getElem hl)⟩
theorem Reads.keep (h : Reads w B size A n xs) (hk : ∀ p : Addr, p.block < B → w'.cell? p = w.cell? p) : Reads w' B size A n xs :=
  ⟨h.1, fun hn => by
    obtain ⟨ad, e, hb, hc⟩ := h.2 hn
    exact ⟨ad, e, hb, fun j u hu => (hk _ (by rw [block_of_add]; exact hb)).trans (hc j u hu)⟩⟩
theorem Reads.more (h : Reads w B size A n xs) (hB : B ≤ B') : Reads w B' size A n xs :=
  ⟨h.1, fun hn => by
    obtain ⟨ad, e, hb, hc⟩ := h.2 hn
    exact ⟨ad, e, by omega, hc⟩⟩
theorem Reads.below (h : Reads w B size A n xs) (hb : Below B w w') : Reads w' B size A n xs := h.keep fun _ hp => hb.cell hp
theorem Reads.drew (h : Reads w B size A n xs) : Reads w.drew B size A n xs := h
theorem Reads.drewN (h : Reads w B size A n xs) (k : Nat) : Reads (w.drewN k) B size A n xs := h
theorem Reads.alloc (h : Reads w B size A n xs) (hB : B ≤ w.heap.size) (o : Obj) : Reads (w.alloc o) B size A n xs := h.keep fun p hp => World.cell?_alloc_lt w o p (by omega)
theorem Reads.setCell (h : Reads w B size A n xs) {p : Addr} (hB : B ≤ p.block) (u : Value) : Reads (w.setCell p u) B size A n xs :=
  h.keep fun q hq => World.cell?_setCell_other w p q u (fun e => by subst e; omega)
theorem Reads.grown (h : Reads w B size A n xs) {row : Option Nat} (hg : w.grownBy w' row) (hB : B ≤ w.heap.size) (hr : ∀ g, row = some g → B ≤ g) : Reads w' B size A n xs :=
  h.keep fun p hp => World.cell?_of_block (hg.block p.block (by omega) (fun e => by have := hr _ e.symm; omega))
theorem Reads.cut (h : Reads w B size A n xs) {k cap : Nat} (hk : k ≤ n) (hc : n ≤ cap) :
    Reads w B size (if cap = k then A else A.map (·.add (k * size))) (n - k) (xs.drop (k * size)) := by
  refine ⟨by rw [List.length_drop, h.1, Nat.sub_mul], fun hn => ?_⟩
  obtain ⟨ad, rfl, hb, hcell⟩ := h.2 (by omega)
  rw [if_neg (by omega)]
  refine ⟨ad.add (k * size), rfl, by rw [block_of_add]; exact hb, fun j u hu => ?_⟩
  rw [add_of_add]
  exact hcell _ u (by rw [← hu, List.getElem?_drop])
theorem Reads.of_own {base : Nat} {e : TypeId} {c : Nat} (h : w.ownsRow base e size (.slice A n c) n xs) : Reads w w.heap.size size A n xs := by
  refine ⟨h.1, fun hn => ?_⟩
  obtain ⟨g, cap, hv, _, hlt⟩ := h.form hn
  have hA : A = some ⟨g, 0, none⟩ := by injection hv
  subst hA
  exact ⟨_, rfl, hlt, h.cells (g := g) rfl⟩
end

/-! ### blocks -/
def Blk (w : World) (g : Nat) (t : TypeId) (cs : Array Value) : Prop := w.heap[g]? = some (.cells cs t (0, 0))

section
variable {w w' : World} {g : Nat} {t : TypeId} {cs : Array Value}
theorem Blk.lt (h : Blk w g t cs) : g < w.heap.size := by
  rcases Nat.lt_or_ge g w.heap.size with hlt | hge
  · exact hlt
  · unfold Blk at h; rw [Array.getElem?_eq_none hge] at h; cases h
theorem Blk.cell (h : Blk w g t cs) (i : Nat) : w.cell? ⟨g, i, none⟩ = cs[i]? := cell_of_row w g i cs t (0, 0) h
theorem Blk.frozen (h : Blk w g t cs) (i : Nat) : w.frozen? ⟨g, i, none⟩ = false := by
  unfold Blk at h
  simp [World.frozen?, h]
theorem Blk.new (w : World) (t : TypeId) (cs : Array Value) : Blk (w.alloc (.cells cs t)) w.heap.size t cs := heap_alloc_new w _
theorem Blk.drew (h : Blk w g t cs) : Blk w.drew g t cs := h
theorem Blk.drewN (h : Blk w g t cs) (n : Nat) : Blk (w.drewN n) g t cs := h
theorem Blk.alloc (h : Blk w g t cs) (o : Obj) : Blk (w.alloc o) g t cs := (Below.heap_alloc w o g h.lt).trans h
theorem Blk.set_ (h : Blk w g t cs) (i : Nat) (u : Value) : Blk (w.setCell ⟨g, i, none⟩ u) g t (cs.setIfInBounds i u) := by
  unfold Blk at h ⊢
  simp [World.setCell, Array.getElem?_modify, h]
theorem Blk.far (h : Blk w g t cs) {p : Addr} (hp : g ≠ p.block) (u : Value) : Blk (w.setCell p u) g t cs := (Below.heap_setCell w p u g hp).trans h
theorem Blk.below {B : Nat} (h : Blk w g t cs) (hb : Below B w w') (hg : g < B) : Blk w' g t cs := (hb.block g hg).trans h
theorem Blk.grown {row : Option Nat} (h : Blk w g t cs) (hb : w.grownBy w' row) (hg : some g ≠ row) : Blk w' g t cs := (hb.block g h.lt hg).trans h
theorem Blk.ne_ {g' : Nat} {t' : TypeId} {cs' : Array Value} (h : Blk w g t cs) (h' : Blk w g' t' cs') (hne : t ≠ t') : g ≠ g' := by
  rintro rfl
  unfold Blk at h h'
  rw [h] at h'
  injection h' with h'
  injection h' with _ ht
  exact hne ht
theorem own_blk_ne {base : Nat} {e : TypeId} {size n : Nat} {v : Value} {xs : List Value} (h : w.ownsRow base e size v n xs) (hg : Blk w g t cs) (hne : e ≠ t) : v.ownBlock ≠ some g := by
  rcases h.2 with ⟨rfl, _⟩ | ⟨g', cap, cur, rfl, _, hh, _⟩
  · simp [Value.ownBlock]
  · intro he
    have : g' = g := by simpa [Value.ownBlock] using he
    subst this
    exact Blk.ne_ (t := e) hh hg hne rfl
end

/-! ### append -/
section
variable {P : Program} (w : World)

theorem run_append_of_nil (base : Nat) (t ty e : TypeId) (i : TypeInfo) (size : Nat) (ht : P.underlying t = some (.slice e)) (hi : P.info? e = some i)
    (v : Value) (n : Nat) (xs : List Value) (hown : w.ownsRow base e size v n xs) (c : Nat) : (Builtin.append_ #[t, t] ty #[v, .slice none 0 c]).run P w = .ok v w := by
  rcases hown.2 with ⟨rfl, rfl⟩ | ⟨g, cap, cur, rfl, _, _, hnc, _⟩
  · simp [Builtin.append_, run_underlying ht, sizeOf, typeInfo, hi, Builtin.lenOf, Builtin.firstCells]
  · simp [Builtin.append_, run_underlying ht, sizeOf, typeInfo, hi, Builtin.lenOf, Builtin.firstCells, hnc, storeCells]

theorem run_append_any (base : Nat) (t ty e : TypeId) (i : TypeInfo) (z : Value) (size bytes : Nat) (ht : P.underlying t = some (.slice e)) (hi : P.info? e = some i) (hz : i.zero = some z)
    (hsize : i.size = size) (hby : i.bytes = bytes) (hzs : z.cells.size = size) (hsz : 0 < size)
    (v : Value) (n : Nat) (xs : List Value) (hown : w.ownsRow base e size v n xs)
    (B : Nat) (A : Option Addr) (m c : Nat) (news : List Value) (hr : Reads w B size A m news) (h1 : ∀ u ∈ news, u.oneCell' = true)
    (h63 : n + m ≤ maxLen) (hbytes : (n + m) * bytes ≤ 140737488355328) (hbase : base ≤ w.heap.size) :
    ∃ v' w', (Builtin.append_ #[t, t] ty #[v, .slice A m c]).run P w = .ok v' w' ∧ w'.ownsRow base e size v' (n + m) (xs ++ news) ∧ w.grownBy w' v.ownBlock ∧
      (v'.ownBlock = v.ownBlock ∨ v'.ownBlock = some w.heap.size) := by
  rcases A with _ | ad
  · have hm : m = 0 := by
      rcases Nat.eq_zero_or_pos m with h0 | h0
      · exact h0
      · obtain ⟨ad, h, _⟩ := hr.2 h0
        cases h
    subst hm
    have hn : news = [] := List.eq_nil_of_length_eq_zero (by simpa using hr.1)
    subst hn
    exact ⟨v, w, run_append_of_nil w base t ty e i size ht hi v n xs hown c, by simpa using hown, World.grownBy.refl w _, .inl rfl⟩
  · have hcells : ∀ j u, news[j]? = some u → w.cell? (ad.add j) = some u := by
      intro j u hu
      rcases Nat.eq_zero_or_pos m with h0 | h0
      · subst h0
        have hn : news = [] := List.eq_nil_of_length_eq_zero (by simpa using hr.1)
        subst hn
        simp at hu
      · obtain ⟨ad', h, _, hc⟩ := hr.2 h0
        injection h with h
        subst h
        exact hc j u hu
    obtain ⟨v', w', hrun, h2, h3, _, h5⟩ := run_append_own_at (P := P) w base t ty e i z size bytes ht hi hz hsize hby hzs hsz v n xs hown ad m c news hr.1 hcells h1 h63 hbytes hbase
    exact ⟨v', w', hrun, h2, h3, h5⟩

theorem wp_append_any {o : Oper} {a : Act} {K : Act → World → Prop} {Q : Exit → Act → World → Prop} (s x : Operand) (t : TypeId)
    (ho : o.op = .call { callee := .builtin .append, args := #[s, x], argTypes := #[t, t] })
    (base : Nat) (e : TypeId) (i : TypeInfo) (z : Value) (size bytes : Nat) (ht : P.underlying t = some (.slice e)) (hi : P.info? e = some i) (hz : i.zero = some z)
    (hsize : i.size = size) (hby : i.bytes = bytes) (hzs : z.cells.size = size) (hsz : 0 < size)
    (v : Value) (n : Nat) (xs : List Value) (hs : a.eval s = v) (hown : w.ownsRow base e size v n xs)
    (B : Nat) (A : Option Addr) (m c : Nat) (news : List Value) (hx : a.eval x = .slice A m c) (hr : Reads w B size A m news) (h1 : ∀ u ∈ news, u.oneCell' = true)
    (h63 : n + m ≤ maxLen) (hbytes : (n + m) * bytes ≤ 140737488355328) (hbase : base ≤ w.heap.size)
    (h : ∀ v' w', w'.ownsRow base e size v' (n + m) (xs ++ news) → w.grownBy w' v.ownBlock → (v'.ownBlock = v.ownBlock ∨ v'.ownBlock = some w.heap.size) → K (a.put o.dst v') w') : o.wp P a w K Q := by
  obtain ⟨v', w', hrun, h2, h3, h4⟩ := run_append_any (P := P) w base t o.type e i z size bytes ht hi hz hsize hby hzs hsz v n xs hown B A m c news hr h1 h63 hbytes hbase
  unfold Oper.wp execOp
  simp only [ho, resolve, invoke, builtin, Sem.run_bind, Sem.run_pure, Result.andThen_ok, List.map_toArray, List.map_cons, List.map_nil, hs, hx, hrun]
  exact h v' w' h2 h3 h4

theorem wpList_append_any {ops : Array Oper} {rest : List Oper} {o : Oper} {a : Act} {Q : Exit → Act → World → Prop} (hgd : o.guard = none) (s x : Operand) (t : TypeId)
    (ho : o.op = .call { callee := .builtin .append, args := #[s, x], argTypes := #[t, t] })
    (base : Nat) (e : TypeId) (i : TypeInfo) (z : Value) (size bytes : Nat) (ht : P.underlying t = some (.slice e)) (hi : P.info? e = some i) (hz : i.zero = some z)
    (hsize : i.size = size) (hby : i.bytes = bytes) (hzs : z.cells.size = size) (hsz : 0 < size)
    (v : Value) (n : Nat) (xs : List Value) (hs : a.eval s = v) (hown : w.ownsRow base e size v n xs)
    (B : Nat) (A : Option Addr) (m c : Nat) (news : List Value) (hx : a.eval x = .slice A m c) (hr : Reads w B size A m news) (h1 : ∀ u ∈ news, u.oneCell' = true)
    (h63 : n + m ≤ maxLen) (hbytes : (n + m) * bytes ≤ 140737488355328) (hbase : base ≤ w.heap.size)
    (h : ∀ v' w', w'.ownsRow base e size v' (n + m) (xs ++ news) → w.grownBy w' v.ownBlock → (v'.ownBlock = v.ownBlock ∨ v'.ownBlock = some w.heap.size) → wpList P ops Q rest (a.put o.dst v') w') : wpList P ops Q (o :: rest) a w :=
  wpList_plain hgd fun _ hK => wp_append_any w s x t ho base e i z size bytes ht hi hz hsize hby hzs hsz v n xs hs hown B A m c news hx hr h1 h63 hbytes hbase fun v' w' h2 h3 h4 => hK _ _ (h v' w' h2 h3 h4)

theorem step_append_any {ops : Array Oper} {o : Oper} {a : Act} {K : Act → World → Prop} {Q : Exit → Act → World → Prop} {E : Prop} (hgd : o.guard = none) (s x : Operand) (t : TypeId)
    (ho : o.op = .call { callee := .builtin .append, args := #[s, x], argTypes := #[t, t] })
    (base : Nat) (e : TypeId) (i : TypeInfo) (z : Value) (size bytes : Nat) (ht : P.underlying t = some (.slice e)) (hi : P.info? e = some i) (hz : i.zero = some z)
    (hsize : i.size = size) (hby : i.bytes = bytes) (hzs : z.cells.size = size) (hsz : 0 < size)
    (v : Value) (n : Nat) (xs : List Value) (hs : a.eval s = v) (hown : w.ownsRow base e size v n xs)
    (B : Nat) (A : Option Addr) (m c : Nat) (news : List Value) (hx : a.eval x = .slice A m c) (hr : Reads w B size A m news) (h1 : ∀ u ∈ news, u.oneCell' = true)
    (h63 : n + m ≤ maxLen) (hbytes : (n + m) * bytes ≤ 140737488355328) (hbase : base ≤ w.heap.size)
    (h : ∀ v' w', w'.ownsRow base e size v' (n + m) (xs ++ news) → w.grownBy w' v.ownBlock → (v'.ownBlock = v.ownBlock ∨ v'.ownBlock = some w.heap.size) → K (a.put o.dst v') w') :
    if Region.wanted o (yielded ops a.tmps) = true then Oper.wp P o a w K Q else E := by
  have hw : Region.wanted o (yielded ops a.tmps) = true := by simp [Region.wanted, hgd]
  rw [if_pos hw]
  exact wp_append_any w s x t ho base e i z size bytes ht hi hz hsize hby hzs hsz v n xs hs hown B A m c news hx hr h1 h63 hbytes hbase h
end

/-! ### make -/
theorem run_make_rowN {P : Program} (t e : TypeId) (i : TypeInfo) (z : Value) (ht : P.underlying t = some (.slice e)) (hi : P.info? e = some i) (hz : i.zero = some z)
    (kl kc : IntKind) (n c : Nat) (hnc : n ≤ c) (hbytes : i.bytes * c ≤ 281474976710656) (h63 : c ≤ 9223372036854775807) (w : World) :
    (Instr.makeSlice t (.int kl (n : Int)) (.int kc (c : Int))).run P w = .ok (.slice (some ⟨w.heap.size, 0, none⟩) n c) (w.alloc (.cells (madeCells z.cells (c * i.size)) e)) := by
  have hb : (i.bytes : Int) * (c : Int) ≤ 281474976710656 := by
    have h : ((i.bytes * c : Nat) : Int) ≤ 281474976710656 := by omega
    rwa [Int.natCast_mul] at h
  have hr := run_make (P := P) w t e i z ht hi hz kl kc n c (by omega) (by omega) hb (by omega)
  simp only [Int.toNat_natCast] at hr
  exact hr
theorem run_makeMap_hint {P : Program} (t k e : TypeId) (kd : IntKind) (n : Int) (ht : P.underlying t = some (.map k e)) (w : World) :
    (Instr.makeMap t (some (.int kd n))).run P w = .ok (.map (some w.heap.size)) (w.alloc (.map #[] 0)) := by
  simp [Instr.makeMap, run_underlying ht]; rfl

/-! ### quiet -/
theorem quiet_add {P : Program} {f : FuncId} {args : Array Value} {w : World} {a n : Nat} {v : Value}
    (h : Calls P f args (w.drewN (a + n)) fun e w' => e = .returned v ∧ ∃ m, w' = (w.drewN (a + n)).drewN m) :
    Calls P f args (w.drewN (a + n)) fun e w'' => e = .returned v ∧ ∃ m, w'' = w.drewN (a + m) :=
  h.mono fun _ _ ⟨he, m, hm⟩ => ⟨he, n + m, by rw [hm, World.drewN_drewN, Nat.add_assoc]⟩
theorem quiet_add_same {P : Program} {f : FuncId} {args : Array Value} {w : World} {a n : Nat} {v : Value}
    (h : Calls P f args (w.drewN (a + n)) fun e w' => e = .returned v ∧ w' = w.drewN (a + n)) :
    Calls P f args (w.drewN (a + n)) fun e w'' => e = .returned v ∧ ∃ m, w'' = w.drewN (a + m) :=
  h.mono fun _ _ ⟨he, hm⟩ => ⟨he, n, hm⟩
theorem quiet_add_left {P : Program} {f : FuncId} {args : Array Value} {w : World} {a n : Nat} {v : Value}
    (h : Calls P f args (w.drewN (a + n)) fun e w' => e = .returned v ∧ w.drewN (a + n) = w') :
    Calls P f args (w.drewN (a + n)) fun e w'' => e = .returned v ∧ ∃ m, w'' = w.drewN (a + m) :=
  h.mono fun _ _ ⟨he, hm⟩ => ⟨he, n, hm.symm⟩
theorem quiet_left {P : Program} {f : FuncId} {args : Array Value} {w : World} {n : Nat} {v : Value}
    (h : Calls P f args (w.drewN n) fun e w' => e = .returned v ∧ w.drewN n = w') : Calls P f args (w.drewN n) fun e w'' => e = .returned v ∧ ∃ m, w'' = w.drewN m :=
  h.mono fun _ _ ⟨he, hm⟩ => ⟨he, n, hm.symm⟩

/-! ### results -/
theorem results_tmp4 {fn : Func} {t u v x : Tmp} (h : fn.results = #[.tmp t, .tmp u, .tmp v, .tmp x]) (tmps : Array Value) (P : Program) (w : World) :
    (results fn tmps).run P w = .ok (.tuple #[tmps.getD t undef, tmps.getD u undef, tmps.getD v undef, tmps.getD x undef]) w := by simp [results, h]
theorem results_tmp5 {fn : Func} {t u v x y : Tmp} (h : fn.results = #[.tmp t, .tmp u, .tmp v, .tmp x, .tmp y]) (tmps : Array Value) (P : Program) (w : World) :
    (results fn tmps).run P w = .ok (.tuple #[tmps.getD t undef, tmps.getD u undef, tmps.getD v undef, tmps.getD x undef, tmps.getD y undef]) w := by simp [results, h]

section
open Go.WideShapes Go.ChangeShapes
variable {H : Type} {enc : TypeId × Value → H} {P : Program}
theorem post_of_below {f : Func} {s : ChangeSpec} {apart fresh handsOn again : Bool} {W W' : World} {args : Array Value} {v : Value} {ds gs : List (DataW H)} {before pa pv : List MemPlace}
    (hW : DataW.Whole enc P f.params.toList s.vars apart W args.toList ds gs before)
    (hres : ∀ (b : Nat) (sp : Nat → Bool) (hd : Bool), DataW.TrodAll enc P W' b sp hd f.resultTypes.toList (v.resultList f.resultTypes.size) (s.fn H (ds ++ gs)).results [])
    (hargs : ∀ sp : Nat → Bool, (∀ p ∈ before, sp p.block = true) → DataW.TrodAll enc P W' 0 sp true f.params.toList args.toList (s.fn H (ds ++ gs)).args pa)
    (hvars : ∀ sp : Nat → Bool, (∀ p ∈ before, sp p.block = true) → DataW.TrodVars enc P W' sp s.vars (s.fn H (ds ++ gs)).vars pv)
    (hps : before = pa ++ pv) (hb : Below W.heap.size W W')
    (hok : ∀ (j : Nat) (t : TypeId) (r : Value), f.resultTypes[j]? = some t → (v.resultList f.resultTypes.size)[j]? = some r → Value.okWide P W' .any 0 t r) :
    s.post enc P f apart fresh handsOn again W args v W' := by
  have hlt : ∀ p ∈ before, p.block < W.heap.size := fun p hp => hW.lt p hp
  have hold : ∀ p ∈ before, (fun b => decide (b < W.heap.size)) p.block = true := fun p hp => by simpa using hlt p hp
  refine ⟨ds, gs, before, [], pa, pv, hW, hres _ _ _, hargs _ hold, hvars _ hold, World.keptBut_mono (fun p hp => ⟨hp, ?_⟩) (hb.frame (· ∈ before)), fun _ => ?_⟩
  · rw [hps, List.mem_append] at hp
    exact Or.inr hp
  · obtain ⟨_, _, _, _, _, hz, hn⟩ := hW
    refine ⟨hok, _, _, ([] ++ pa) ++ pv, ⟨[] ++ pa, pv, trodAll_append (hargs _ (fun _ _ => rfl)) (hres _ _ _), hvars _ (fun _ _ => rfl), rfl, ?_, ?_⟩, ?_⟩
    · intro b off hp
      have hin : MemPlace.cell b off ∈ before := by rw [hps]; simpa using hp
      rw [hb.frozen (hlt _ hin)]
      exact hz b off hin
    · intro ha
      have := hn ha
      rw [hps] at this
      simpa using this
    · intro p hp _
      rw [hps]
      simpa using hp
end

/-! ### the last step of a law: it returned true, and below the heap's old size nothing has turned -/
section
open Go.WideShapes Go.ChangeShapes
variable {H : Type} {enc : TypeId × Value → H} {P : Program}
theorem trodAll_keep (hl : laidOutB P = true) {W W' : World} (hb : Below W.heap.size W W') {sp : Nat → Bool} :
    ∀ (ts : List TypeId) (vs : List Value) (ds : List (DataW H)) (ps : List MemPlace), (∀ t ∈ ts, P.readableRec t = true ∧ t < P.types.size) →
      DataW.TrodAll enc P W 0 (fun _ => true) true ts vs ds ps → (∀ x ∈ ps, x.block < W.heap.size) → (∀ x ∈ ps, sp x.block = true) → DataW.TrodAll enc P W' 0 sp true ts vs ds ps
  | [], [], [], _, _, h, _, _ => h
  | t :: ts, v :: vs, d :: ds, ps, hr, ⟨p, q, hp, hq, e⟩, hlt, hsp => by
    subst e
    have h1 := hr t (List.mem_cons_self ..)
    exact ⟨p, q, WideElems.Trod_stays hl h1.1 h1.2 hp (fun x hx => hb.same (hlt x (List.mem_append_left _ hx))) (fun x hx => hsp x (List.mem_append_left _ hx)),
      trodAll_keep hl hb ts vs ds q (fun t ht => hr t (List.mem_cons_of_mem _ ht)) hq (fun x hx => hlt x (List.mem_append_right _ hx)) (fun x hx => hsp x (List.mem_append_right _ hx)), rfl⟩
  | [], _ :: _, _, _, _, h, _, _ => absurd h (by simp [DataW.TrodAll])
  | [], [], _ :: _, _, _, h, _, _ => absurd h (by simp [DataW.TrodAll])
  | _ :: _, [], _, _, _, h, _, _ => absurd h (by simp [DataW.TrodAll])
  | _ :: _, _ :: _, [], _, _, h, _, _ => absurd h (by simp [DataW.TrodAll])

theorem law_post {f : Func} {s : ChangeSpec} {apart fresh handsOn again : Bool} {W W' : World} {args : Array Value} {ds gs : List (DataW H)} {before : List MemPlace} {tb : TypeId}
    (hl : laidOutB P = true) (hr : ∀ t ∈ f.params.toList, P.readableRec t = true ∧ t < P.types.size) (hrt : f.resultTypes = #[tb]) (htb : P.underlying tb = some .bool) (hv : s.vars = [])
    (hfn : s.fn H (ds ++ []) = { results := [.lit (.bool true)], args := ds })
    (hW : DataW.Whole enc P f.params.toList s.vars apart W args.toList ds gs before) (hb : Below W.heap.size W W') : s.post enc P f apart fresh handsOn again W args (.bool true) W' := by
  have hW0 := hW
  obtain ⟨p, q, hA, hV, rfl, hfz, hnd⟩ := hW
  rw [hv] at hV
  obtain ⟨rfl, rfl⟩ := trodVars_none hV
  refine post_of_below (pa := p) (pv := []) hW0 ?_ ?_ ?_ rfl hb ?_
  · intro b sp hd
    rw [hfn, hrt]
    exact trodAll_cons_mk (shut_bool htb _) trodAll_mk0
  · intro sp hsp
    rw [hfn]
    exact trodAll_keep hl hb _ _ _ _ hr hA (fun x hx => hW0.lt x (List.mem_append_left _ hx)) (fun x hx => hsp x (List.mem_append_left _ hx))
  · intro sp _
    rw [hv, hfn]
    rfl
  · rw [hrt]
    exact ok_one (f := f) hrt rfl (okWide_bool_mk htb _) |> fun h => by rw [hrt] at h; exact h
end

end Go.Proofs.Ytegpjjkbbdfggaa.bs

/-
  Slices of bytes, of runs and of rows, as lists: what a slice value reads as in a world, and that it stays so.
-/
namespace Go.Proofs.Ytegpjjkbbdfggaa.bs
set_option linter.unusedVariables false
set_option linter.unusedSimpArgs false
open Go.RowKit

/-- the slice at A, of length n and capacity c, holds the bytes bs -/
def Bytes (w : World) (A : Option Addr) (n c : Nat) (bs : List UInt8) : Prop :=
  bs.length = n ∧ n ≤ c ∧ (0 < n → ∃ b o, A = some ⟨b, o, none⟩ ∧ b < w.heap.size ∧ ∀ (j : Nat) (h : j < bs.length), w.cell? ⟨b, o + j, none⟩ = some (.int .u8 (bs[j].toNat : Int)))

theorem Bytes.below {w w' : World} {A : Option Addr} {n c : Nat} {bs : List UInt8} (h : Bytes w A n c bs) (hb : Below w.heap.size w w') : Bytes w' A n c bs := by
  obtain ⟨h1, h2, h3⟩ := h
  refine ⟨h1, h2, fun hn => ?_⟩
  obtain ⟨b, o, e, hlt, hc⟩ := h3 hn
  exact ⟨b, o, e, Nat.lt_of_lt_of_le hlt hb.size, fun j hj => (hb.cell (p := ⟨b, o + j, none⟩) hlt).trans (hc j hj)⟩
theorem Bytes.nil_ {w : World} {A : Option Addr} {c : Nat} : Bytes w A 0 c [] := ⟨rfl, Nat.zero_le _, fun h => absurd h (by omega)⟩
theorem Bytes.at_ {w : World} {A : Option Addr} {n c : Nat} {bs : List UInt8} (h : Bytes w A n c bs) (hn : 0 < n) :
    ∃ b o, A = some ⟨b, o, none⟩ ∧ b < w.heap.size ∧ ∀ (j : Nat) (h : j < n), w.cell? ⟨b, o + j, none⟩ = some (.int .u8 ((bs.getD j 0).toNat : Int)) := by
  obtain ⟨h1, h2, h3⟩ := h
  obtain ⟨b, o, e, hlt, hc⟩ := h3 hn
  refine ⟨b, o, e, hlt, fun j hj => ?_⟩
  rw [hc j (by omega)]
  simp [List.getD, List.getElem?_eq_getElem (show j < bs.length by omega)]
theorem u8_lt (x : UInt8) : (x.toNat : Int) ≤ 255 := by have := x.toNat_lt; omega
theorem u8_of (v : Int) (h0 : 0 ≤ v) (h1 : v ≤ 255) : ((UInt8.ofNat v.toNat).toNat : Int) = v := by
  rw [UInt8.toNat_ofNat']; omega
/-- a block that was made whole, read as bytes -/
theorem Bytes.of_blk {w : World} {g n c : Nat} {t : TypeId} {cs : Array Value} {bs : List UInt8} (h : Blk w g t cs) (hl : bs.length = n) (hc : n ≤ c)
    (hcs : ∀ (j : Nat) (h : j < bs.length), cs[j]? = some (.int .u8 (bs[j].toNat : Int))) : Bytes w (some ⟨g, 0, none⟩) n c bs :=
  ⟨hl, hc, fun _ => ⟨g, 0, rfl, h.lt, fun j hj => by rw [Nat.zero_add, h.cell]; exact hcs j hj⟩⟩

theorem Blk.row {w : World} {g : Nat} {t : TypeId} {cs : Array Value} (h : Blk w g t cs) (cs' : Array Value) : Blk (w.setRow g cs') g t cs' := setRow_heap w g cs cs' t (0, 0) h
theorem Blk.rowFar {w : World} {g k : Nat} {t : TypeId} {cs : Array Value} (h : Blk w k t cs) (hk : k ≠ g) (cs' : Array Value) : Blk (w.setRow g cs') k t cs := (setRow_other w g k cs' hk).trans h
theorem brow {a w : World} {g : Nat} (h : Below a.heap.size a w) (hg : a.heap.size ≤ g) (cs : Array Value) : Below a.heap.size a (w.setRow g cs) := below_setRow h hg cs

/-! ### a function whose first result is a struct in a block of its own -/
section
variable {P : Program}
theorem ret_struct2 {fn : Func} {R : Ending → World → Prop} {a : Act} {w : World} {p u : Tmp} {ty t : TypeId} {g : Nat} {cs : Array Value} {d : TypeDesc} (hres : fn.results = #[.cell p ty, .tmp u])
    (hp : a.tmps.getD p undef = .pointer (some ⟨g, 0, none⟩)) (hg : Blk w g t cs)
    (hu : P.underlying ty = some d) (hd : (match d with | .struct _ | .array _ _ => true | _ => false) = true) (hi : (P.info? ty).map (·.size) = some cs.size)
    (hdef : a.defers = []) (hR : R (.returned (.tuple #[.agg cs, a.tmps.getD u undef])) w) : bodyPost P fn R .ret a w := by
  refine bodyPost_ret (v := .tuple #[.agg cs, a.tmps.getD u undef]) ?_ hdef hR
  have hl := run_loadVar_row (P := P) w g t ty cs (0, 0) d hg hu hd hi
  rw [results_cell_tmp hres, hp]
  simp [asAddr, hl]
theorem ret_struct1 {fn : Func} {R : Ending → World → Prop} {a : Act} {w : World} {p : Tmp} {ty t : TypeId} {g : Nat} {cs : Array Value} {d : TypeDesc} (hres : fn.results = #[.cell p ty])
    (hp : a.tmps.getD p undef = .pointer (some ⟨g, 0, none⟩)) (hg : Blk w g t cs)
    (hu : P.underlying ty = some d) (hd : (match d with | .struct _ | .array _ _ => true | _ => false) = true) (hi : (P.info? ty).map (·.size) = some cs.size)
    (hdef : a.defers = []) (hR : R (.returned (.agg cs)) w) : bodyPost P fn R .ret a w :=
  bodyPost_ret (v := .agg cs) (results_cell_row hres a.tmps w g t cs (0, 0) d hp hg hu hd hi) hdef hR
end

end Go.Proofs.Ytegpjjkbbdfggaa.bs

/-
  A region that draws its order, whose operations read and whose callees may also make memory of their own ('Below'): walked once, as a quiet one (the kit's wp_region_quiet at the class of the worlds that keep what lay).
-/
namespace Go.Proofs.Ytegpjjkbbdfggaa.bs
set_option linter.unusedVariables false
set_option linter.unusedSimpArgs false
open Go.RowKit

/-- the worlds that keep all that lay in w -/
def Up (w : World) : Type := { w' : World // Below w.heap.size w w' }
def Up.val {w : World} (u : Up w) : World := Subtype.val u
theorem Up.ok {w : World} (u : Up w) : Below w.heap.size w u.val := u.property
def Up.of {w w' : World} (h : Below w.heap.size w w') : Up w := ⟨w', h⟩
theorem Up.val_of {w w' : World} (h : Below w.heap.size w w') : (Up.of h).val = w' := rfl
instance {w : World} : Nonempty (Up w) := ⟨Up.of (Below.refl _ _)⟩
theorem Up.cell {w : World} (u : Up w) {p : Addr} (h : p.block < w.heap.size) : u.val.cell? p = w.cell? p := u.ok.cell h

theorem wp_region_up {P : Program} {id : Nat} {Q : Exit → Act → World → Prop} {a : Act} {w : World} {l : List Oper} (hm : P.follows .mixedOrders = true) (hB : Region.lexB .any l.toArray = true)
    (h : wpQuiet P l.toArray (fun w' => ∃ u : Up w, w' = u.val) (fun a' => ∀ w', (∃ u : Up w, w' = u.val) → Q .normal a' w') l a) : (Code.region id l.toArray true).wp P Q a w :=
  wp_region_quiet (C := fun w' => ∃ u : Up w, w' = u.val) hm hB ⟨Up.of (w' := w.drew) (Below.drew (Below.refl _ _)), rfl⟩ h

/-- a callee's contract, met in a world of the class -/
theorem up_of {P : Program} {f : FuncId} {args : Array Value} {w : World} {u : Up w} {v : Value} (h : Calls P f args u.val fun e w' => e = .returned v ∧ Below u.val.heap.size u.val w') :
    Calls P f args u.val fun e w'' => e = .returned v ∧ ∃ u' : Up w, w'' = u'.val :=
  h.mono fun _ w' ⟨he, hb⟩ => ⟨he, Up.of (btrans u.ok hb), rfl⟩
theorem up_same {P : Program} {f : FuncId} {args : Array Value} {w : World} {u : Up w} {v : Value} (h : Calls P f args u.val fun e w' => e = .returned v ∧ u.val = w') :
    Calls P f args u.val fun e w'' => e = .returned v ∧ ∃ u' : Up w, w'' = u'.val :=
  h.mono fun _ w' ⟨he, hb⟩ => ⟨he, u, hb.symm⟩
theorem up_drew {P : Program} {f : FuncId} {args : Array Value} {w : World} {u : Up w} {v : Value} (h : Calls P f args u.val fun e w' => e = .returned v ∧ ∃ n, u.val.drewN n = w') :
    Calls P f args u.val fun e w'' => e = .returned v ∧ ∃ u' : Up w, w'' = u'.val :=
  h.mono fun _ w' ⟨he, n, hb⟩ => ⟨he, Up.of (w' := w') (by rw [← hb]; exact below_drewN u.ok n), rfl⟩
end Go.Proofs.Ytegpjjkbbdfggaa.bs

/-
  Of layer 24: what a fix is, which matrices may be (for the seat of the images; the text of mat/XFix and mat/XMay).
-/
namespace Go.Proofs.Ytegpjjkbbdfggaa.mt
set_option linter.unusedVariables false
set_option linter.unusedSimpArgs false
open Go.RowKit bs

/-- may a number be a fix -/
def fixB (v : Int) : Bool := decide (-1073741823 ≤ v) && decide (v ≤ 1073741823)
theorem fixB_true {v : Int} (h : -1073741823 ≤ v ∧ v ≤ 1073741823) : fixB v = true := by unfold fixB; simp; omega
theorem fixB_false {v : Int} (h : v < -1073741823 ∨ 1073741823 < v) : fixB v = false := by unfold fixB; simp; omega
theorem fixB_bd {v : Int} (h : fixB v = true) : -1073741823 ≤ v ∧ v ≤ 1073741823 := by unfold fixB at h; simpa using h
/-- a product of two fixes -/
theorem fix_mul {a b : Int} (ha : -1073741823 ≤ a ∧ a ≤ 1073741823) (hb : -1073741823 ≤ b ∧ b ≤ 1073741823) : -1152921502459363329 ≤ a * b ∧ a * b ≤ 1152921502459363329 := by
  have h1 := Int.mul_nonneg (show 0 ≤ 1073741823 - a by omega) (show 0 ≤ 1073741823 - b by omega)
  have h2 := Int.mul_nonneg (show 0 ≤ 1073741823 + a by omega) (show 0 ≤ 1073741823 + b by omega)
  have h3 := Int.mul_nonneg (show 0 ≤ 1073741823 - a by omega) (show 0 ≤ 1073741823 + b by omega)
  have h4 := Int.mul_nonneg (show 0 ≤ 1073741823 + a by omega) (show 0 ≤ 1073741823 - b by omega)
  simp only [Int.sub_mul, Int.mul_sub, Int.add_mul, Int.mul_add] at h1 h2 h3 h4
  omega

theorem fix_any (v : Int) (w : World) : Calls Try.prog 83 #[.int .i64 v] w fun e w' => e = .returned (.bool (fixB v)) ∧ w = w' := by
  by_cases h1 : v < -1073741823
  · rw [fixB_false (.inl h1)]
    have c1 : decide (-1073741823 ≤ v) = false := by simp; omega
    go_enter Try.func83, Try.ntmps83
    go_wp2_with fail
    go_ret
    exact ⟨rfl, rfl⟩
  · have c1 : decide (-1073741823 ≤ v) = true := by simp; omega
    by_cases h2 : 1073741823 < v
    · rw [fixB_false (.inr h2)]
      have c2 : decide (v ≤ 1073741823) = false := by simp; omega
      go_enter Try.func83, Try.ntmps83
      go_wp2_with fail
      go_ret
      exact ⟨rfl, rfl⟩
    · rw [fixB_true (by omega)]
      have c2 : decide (v ≤ 1073741823) = true := by simp; omega
      go_enter Try.func83, Try.ntmps83
      go_wp2_with fail
      go_ret
      exact ⟨rfl, rfl⟩

theorem rfix_any (v : Int) (w : World) : Calls Try.prog 103 #[.int .i64 v] w fun e w' => e = .returned (.bool (fixB v)) ∧ w = w' := by
  by_cases h1 : v < -1073741823
  · rw [fixB_false (.inl h1)]
    have c1 : decide (-1073741823 ≤ v) = false := by simp; omega
    go_enter Try.func103, Try.ntmps103
    go_wp2_with fail
    go_ret
    exact ⟨rfl, rfl⟩
  · have c1 : decide (-1073741823 ≤ v) = true := by simp; omega
    by_cases h2 : 1073741823 < v
    · rw [fixB_false (.inr h2)]
      have c2 : decide (v ≤ 1073741823) = false := by simp; omega
      go_enter Try.func103, Try.ntmps103
      go_wp2_with fail
      go_ret
      exact ⟨rfl, rfl⟩
    · rw [fixB_true (by omega)]
      have c2 : decide (v ≤ 1073741823) = true := by simp; omega
      go_enter Try.func103, Try.ntmps103
      go_wp2_with fail
      go_ret
      exact ⟨rfl, rfl⟩

/-- may a matrix be -/
def mayB (A B C D E F : Int) : Bool := fixB A && fixB B && fixB C && fixB D && fixB E && fixB F
theorem mayB_bd {A B C D E F : Int} (h : mayB A B C D E F = true) : (-1073741823 ≤ A ∧ A ≤ 1073741823) ∧ (-1073741823 ≤ B ∧ B ≤ 1073741823) ∧ (-1073741823 ≤ C ∧ C ≤ 1073741823) ∧ (-1073741823 ≤ D ∧ D ≤ 1073741823) ∧ (-1073741823 ≤ E ∧ E ≤ 1073741823) ∧ (-1073741823 ≤ F ∧ F ≤ 1073741823) := by
  unfold mayB at h
  simp only [Bool.and_eq_true] at h
  obtain ⟨⟨⟨⟨⟨a, b⟩, c⟩, d⟩, e⟩, f⟩ := h
  exact ⟨fixB_bd a, fixB_bd b, fixB_bd c, fixB_bd d, fixB_bd e, fixB_bd f⟩

theorem rdet_any (A B C D E F : Int) (w : World) (h : mayB A B C D E F = true) : Calls Try.prog 62 #[.agg #[.int .i64 A, .int .i64 B, .int .i64 C, .int .i64 D, .int .i64 E, .int .i64 F]] w fun e w' => e = .returned (.int .i64 (A * D - B * C)) ∧ Below w.heap.size w w' := by
  obtain ⟨a, b, c, d, _, _⟩ := mayB_bd h
  have b1 := fix_mul a d
  have b2 := fix_mul b c
  generalize h1 : A * D = x at *
  generalize h2 : B * C = y at *
  obtain ⟨b10, b11⟩ := b1
  obtain ⟨b20, b21⟩ := b2
  clear a b c d h
  go_enter Try.func62, Try.ntmps62
  go_wp2_with fail
  go_ret
  exact ⟨rfl, by (repeat' (first | exact Below.refl _ _ | exact Below.refl _ _ | refine balloc ?_ _ | refine Below.drew ?_ | refine below_drewN ?_ _ | refine bset ?_ (by first | omega | (simp <;> omega)) _))⟩

set_option maxHeartbeats 3200000 in
theorem rmay_any (A B C D E F : Int) (w : World) : Calls Try.prog 60 #[.agg #[.int .i64 A, .int .i64 B, .int .i64 C, .int .i64 D, .int .i64 E, .int .i64 F]] w fun e w' => e = .returned (.bool (mayB A B C D E F)) ∧ Below w.heap.size w w' := by
  cases h0 : fixB A with
  | false =>
    have HF0 := Lib.hid (fun W => show Calls Try.prog 103 #[.int .i64 A] W fun e w' => e = .returned (.bool false) ∧ W = w' by have := rfix_any A W; rw [h0] at this; exact this)
    have hb : mayB A B C D E F = false := by unfold mayB; simp [h0]
    rw [hb]
    clear hb h0
    go_enter Try.func60, Try.ntmps60
    go_wp2_with fail
    refine (HF0.out _).mono ?_
    rintro e w' ⟨rfl, rfl⟩
    go_wp2_with fail
    go_ret
    exact ⟨rfl, by (repeat' (first | exact Below.refl _ _ | exact Below.refl _ _ | refine balloc ?_ _ | refine Below.drew ?_ | refine below_drewN ?_ _ | refine bset ?_ (by first | omega | (simp <;> omega)) _))⟩
  | true =>
    have HF0 := Lib.hid (fun W => show Calls Try.prog 103 #[.int .i64 A] W fun e w' => e = .returned (.bool true) ∧ W = w' by have := rfix_any A W; rw [h0] at this; exact this)
    cases h1 : fixB B with
    | false =>
      have HF1 := Lib.hid (fun W => show Calls Try.prog 103 #[.int .i64 B] W fun e w' => e = .returned (.bool false) ∧ W = w' by have := rfix_any B W; rw [h1] at this; exact this)
      have hb : mayB A B C D E F = false := by unfold mayB; simp [h1]
      rw [hb]
      clear hb h0 h1
      go_enter Try.func60, Try.ntmps60
      go_wp2_with fail
      refine (HF0.out _).mono ?_
      rintro e w' ⟨rfl, rfl⟩
      go_wp2_with fail
      refine (HF1.out _).mono ?_
      rintro e w' ⟨rfl, rfl⟩
      go_wp2_with fail
      go_ret
      exact ⟨rfl, by (repeat' (first | exact Below.refl _ _ | exact Below.refl _ _ | refine balloc ?_ _ | refine Below.drew ?_ | refine below_drewN ?_ _ | refine bset ?_ (by first | omega | (simp <;> omega)) _))⟩
    | true =>
      have HF1 := Lib.hid (fun W => show Calls Try.prog 103 #[.int .i64 B] W fun e w' => e = .returned (.bool true) ∧ W = w' by have := rfix_any B W; rw [h1] at this; exact this)
      cases h2 : fixB C with
      | false =>
        have HF2 := Lib.hid (fun W => show Calls Try.prog 103 #[.int .i64 C] W fun e w' => e = .returned (.bool false) ∧ W = w' by have := rfix_any C W; rw [h2] at this; exact this)
        have hb : mayB A B C D E F = false := by unfold mayB; simp [h2]
        rw [hb]
        clear hb h0 h1 h2
        go_enter Try.func60, Try.ntmps60
        go_wp2_with fail
        refine (HF0.out _).mono ?_
        rintro e w' ⟨rfl, rfl⟩
        go_wp2_with fail
        refine (HF1.out _).mono ?_
        rintro e w' ⟨rfl, rfl⟩
        go_wp2_with fail
        refine (HF2.out _).mono ?_
        rintro e w' ⟨rfl, rfl⟩
        go_wp2_with fail
        go_ret
        exact ⟨rfl, by (repeat' (first | exact Below.refl _ _ | exact Below.refl _ _ | refine balloc ?_ _ | refine Below.drew ?_ | refine below_drewN ?_ _ | refine bset ?_ (by first | omega | (simp <;> omega)) _))⟩
      | true =>
        have HF2 := Lib.hid (fun W => show Calls Try.prog 103 #[.int .i64 C] W fun e w' => e = .returned (.bool true) ∧ W = w' by have := rfix_any C W; rw [h2] at this; exact this)
        cases h3 : fixB D with
        | false =>
          have HF3 := Lib.hid (fun W => show Calls Try.prog 103 #[.int .i64 D] W fun e w' => e = .returned (.bool false) ∧ W = w' by have := rfix_any D W; rw [h3] at this; exact this)
          have hb : mayB A B C D E F = false := by unfold mayB; simp [h3]
          rw [hb]
          clear hb h0 h1 h2 h3
          go_enter Try.func60, Try.ntmps60
          go_wp2_with fail
          refine (HF0.out _).mono ?_
          rintro e w' ⟨rfl, rfl⟩
          go_wp2_with fail
          refine (HF1.out _).mono ?_
          rintro e w' ⟨rfl, rfl⟩
          go_wp2_with fail
          refine (HF2.out _).mono ?_
          rintro e w' ⟨rfl, rfl⟩
          go_wp2_with fail
          refine (HF3.out _).mono ?_
          rintro e w' ⟨rfl, rfl⟩
          go_wp2_with fail
          go_ret
          exact ⟨rfl, by (repeat' (first | exact Below.refl _ _ | exact Below.refl _ _ | refine balloc ?_ _ | refine Below.drew ?_ | refine below_drewN ?_ _ | refine bset ?_ (by first | omega | (simp <;> omega)) _))⟩
        | true =>
          have HF3 := Lib.hid (fun W => show Calls Try.prog 103 #[.int .i64 D] W fun e w' => e = .returned (.bool true) ∧ W = w' by have := rfix_any D W; rw [h3] at this; exact this)
          cases h4 : fixB E with
          | false =>
            have HF4 := Lib.hid (fun W => show Calls Try.prog 103 #[.int .i64 E] W fun e w' => e = .returned (.bool false) ∧ W = w' by have := rfix_any E W; rw [h4] at this; exact this)
            have hb : mayB A B C D E F = false := by unfold mayB; simp [h4]
            rw [hb]
            clear hb h0 h1 h2 h3 h4
            go_enter Try.func60, Try.ntmps60
            go_wp2_with fail
            refine (HF0.out _).mono ?_
            rintro e w' ⟨rfl, rfl⟩
            go_wp2_with fail
            refine (HF1.out _).mono ?_
            rintro e w' ⟨rfl, rfl⟩
            go_wp2_with fail
            refine (HF2.out _).mono ?_
            rintro e w' ⟨rfl, rfl⟩
            go_wp2_with fail
            refine (HF3.out _).mono ?_
            rintro e w' ⟨rfl, rfl⟩
            go_wp2_with fail
            refine (HF4.out _).mono ?_
            rintro e w' ⟨rfl, rfl⟩
            go_wp2_with fail
            go_ret
            exact ⟨rfl, by (repeat' (first | exact Below.refl _ _ | exact Below.refl _ _ | refine balloc ?_ _ | refine Below.drew ?_ | refine below_drewN ?_ _ | refine bset ?_ (by first | omega | (simp <;> omega)) _))⟩
          | true =>
            have HF4 := Lib.hid (fun W => show Calls Try.prog 103 #[.int .i64 E] W fun e w' => e = .returned (.bool true) ∧ W = w' by have := rfix_any E W; rw [h4] at this; exact this)
            cases h5 : fixB F with
            | false =>
              have HF5 := Lib.hid (fun W => show Calls Try.prog 103 #[.int .i64 F] W fun e w' => e = .returned (.bool false) ∧ W = w' by have := rfix_any F W; rw [h5] at this; exact this)
              have hb : mayB A B C D E F = false := by unfold mayB; simp [h5]
              rw [hb]
              clear hb h0 h1 h2 h3 h4 h5
              go_enter Try.func60, Try.ntmps60
              go_wp2_with fail
              refine (HF0.out _).mono ?_
              rintro e w' ⟨rfl, rfl⟩
              go_wp2_with fail
              refine (HF1.out _).mono ?_
              rintro e w' ⟨rfl, rfl⟩
              go_wp2_with fail
              refine (HF2.out _).mono ?_
              rintro e w' ⟨rfl, rfl⟩
              go_wp2_with fail
              refine (HF3.out _).mono ?_
              rintro e w' ⟨rfl, rfl⟩
              go_wp2_with fail
              refine (HF4.out _).mono ?_
              rintro e w' ⟨rfl, rfl⟩
              go_wp2_with fail
              refine (HF5.out _).mono ?_
              rintro e w' ⟨rfl, rfl⟩
              go_wp2_with fail
              go_ret
              exact ⟨rfl, by (repeat' (first | exact Below.refl _ _ | exact Below.refl _ _ | refine balloc ?_ _ | refine Below.drew ?_ | refine below_drewN ?_ _ | refine bset ?_ (by first | omega | (simp <;> omega)) _))⟩
            | true =>
              have HF5 := Lib.hid (fun W => show Calls Try.prog 103 #[.int .i64 F] W fun e w' => e = .returned (.bool true) ∧ W = w' by have := rfix_any F W; rw [h5] at this; exact this)
              have hb : mayB A B C D E F = true := by unfold mayB; simp [h0, h1, h2, h3, h4, h5]
              rw [hb]
              clear hb h0 h1 h2 h3 h4 h5
              go_enter Try.func60, Try.ntmps60
              go_wp2_with fail
              refine (HF0.out _).mono ?_
              rintro e w' ⟨rfl, rfl⟩
              go_wp2_with fail
              refine (HF1.out _).mono ?_
              rintro e w' ⟨rfl, rfl⟩
              go_wp2_with fail
              refine (HF2.out _).mono ?_
              rintro e w' ⟨rfl, rfl⟩
              go_wp2_with fail
              refine (HF3.out _).mono ?_
              rintro e w' ⟨rfl, rfl⟩
              go_wp2_with fail
              refine (HF4.out _).mono ?_
              rintro e w' ⟨rfl, rfl⟩
              go_wp2_with fail
              refine (HF5.out _).mono ?_
              rintro e w' ⟨rfl, rfl⟩
              go_wp2_with fail
              go_ret
              exact ⟨rfl, by (repeat' (first | exact Below.refl _ _ | exact Below.refl _ _ | refine balloc ?_ _ | refine Below.drew ?_ | refine below_drewN ?_ _ | refine bset ?_ (by first | omega | (simp <;> omega)) _))⟩


theorem ix0 (A B C D E F : Int) (w : World) : (Instr.index 34 (.agg #[.int .i64 A, .int .i64 B, .int .i64 C, .int .i64 D, .int .i64 E, .int .i64 F]) (.int .i64 0)).run Try.prog w = .ok (.int .i64 A) w := by kernel_rfl
theorem ix1 (A B C D E F : Int) (w : World) : (Instr.index 34 (.agg #[.int .i64 A, .int .i64 B, .int .i64 C, .int .i64 D, .int .i64 E, .int .i64 F]) (.int .i64 1)).run Try.prog w = .ok (.int .i64 B) w := by kernel_rfl
theorem ix2 (A B C D E F : Int) (w : World) : (Instr.index 34 (.agg #[.int .i64 A, .int .i64 B, .int .i64 C, .int .i64 D, .int .i64 E, .int .i64 F]) (.int .i64 2)).run Try.prog w = .ok (.int .i64 C) w := by kernel_rfl
theorem ix3 (A B C D E F : Int) (w : World) : (Instr.index 34 (.agg #[.int .i64 A, .int .i64 B, .int .i64 C, .int .i64 D, .int .i64 E, .int .i64 F]) (.int .i64 3)).run Try.prog w = .ok (.int .i64 D) w := by kernel_rfl
theorem ix4 (A B C D E F : Int) (w : World) : (Instr.index 34 (.agg #[.int .i64 A, .int .i64 B, .int .i64 C, .int .i64 D, .int .i64 E, .int .i64 F]) (.int .i64 4)).run Try.prog w = .ok (.int .i64 E) w := by kernel_rfl
theorem ix5 (A B C D E F : Int) (w : World) : (Instr.index 34 (.agg #[.int .i64 A, .int .i64 B, .int .i64 C, .int .i64 D, .int .i64 E, .int .i64 F]) (.int .i64 5)).run Try.prog w = .ok (.int .i64 F) w := by kernel_rfl
def preB (A B C D E F : Int) : Nat → Bool
  | 0 => true
  | 1 => fixB A
  | 2 => fixB A && fixB B
  | 3 => fixB A && fixB B && fixB C
  | 4 => fixB A && fixB B && fixB C && fixB D
  | 5 => fixB A && fixB B && fixB C && fixB D && fixB E
  | _ => mayB A B C D E F

set_option maxHeartbeats 3200000 in
theorem may_any (A B C D E F : Int) (w : World) : Calls Try.prog 66 #[.agg #[.int .i64 A, .int .i64 B, .int .i64 C, .int .i64 D, .int .i64 E, .int .i64 F]] w fun e w' => e = .returned (.bool (mayB A B C D E F)) ∧ Below w.heap.size w w' := by
  have J0 := ix0 A B C D E F
  have HF0 := Lib.hid (fix_any A)
  have J1 := ix1 A B C D E F
  have HF1 := Lib.hid (fix_any B)
  have J2 := ix2 A B C D E F
  have HF2 := Lib.hid (fix_any C)
  have J3 := ix3 A B C D E F
  have HF3 := Lib.hid (fix_any D)
  have J4 := ix4 A B C D E F
  have HF4 := Lib.hid (fix_any E)
  have J5 := ix5 A B C D E F
  have HF5 := Lib.hid (fix_any F)
  obtain ⟨mb, hmb⟩ : ∃ mb, mayB A B C D E F = mb := ⟨_, rfl⟩
  rw [hmb]
  have HM := Lib.hid hmb
  clear hmb
  go_enter Try.func66, Try.ntmps66
  go_wp2_with fail
  go_loop [4, 18] (fun x c => ∃ k : Nat, k ≤ 6 ∧ c = .int .i64 k ∧ Hid (preB A B C D E F k = true)) (fun _ c => 6 - (intOf c).toNat)
  case atStart => exact ⟨0, by omega, rfl, rfl⟩
  case round =>
    obtain ⟨k, hk, rfl, hP⟩ := hrel
    rcases (show k = 0 ∨ k = 1 ∨ k = 2 ∨ k = 3 ∨ k = 4 ∨ k = 5 ∨ k = 6 by omega) with h | h | h | h | h | h | h <;> subst h
    · cases hf : fixB A with
      | false =>
        have HC := Lib.hid (fun W => show Calls Try.prog 83 #[.int .i64 A] W fun e w' => e = .returned (.bool false) ∧ W = w' by have := HF0.out W; rw [hf] at this; exact this)
        have hm : mb = false := by rw [← HM.out]; unfold mayB; simp [hf]
        have HMB := Lib.hid hm
        clear hf hm
        go_wp2_with fail
        refine (HC.out _).mono ?_
        rintro e w' ⟨rfl, rfl⟩
        go_wp2_with fail
        go_ret
        exact ⟨ret_bool HMB.out.symm, by (repeat' (first | exact Below.refl _ _ | exact Below.refl _ _ | refine balloc ?_ _ | refine Below.drew ?_ | refine below_drewN ?_ _ | refine bset ?_ (by first | omega | (simp <;> omega)) _))⟩
      | true =>
        have HC := Lib.hid (fun W => show Calls Try.prog 83 #[.int .i64 A] W fun e w' => e = .returned (.bool true) ∧ W = w' by have := HF0.out W; rw [hf] at this; exact this)
        have hnx : preB A B C D E F 1 = true := by
          have hp := hP.out
          simp only [preB] at hp ⊢
          exact hf
        have HN := Lib.hid hnx
        clear hf hnx
        go_wp2_with fail
        refine (HC.out _).mono ?_
        rintro e w' ⟨rfl, rfl⟩
        go_wp2_with fail
        go_round
        case rel => exact ⟨1, by omega, rfl, HN.out⟩
        case measure => simp [intOf]
    · cases hf : fixB B with
      | false =>
        have HC := Lib.hid (fun W => show Calls Try.prog 83 #[.int .i64 B] W fun e w' => e = .returned (.bool false) ∧ W = w' by have := HF1.out W; rw [hf] at this; exact this)
        have hm : mb = false := by rw [← HM.out]; unfold mayB; simp [hf]
        have HMB := Lib.hid hm
        clear hf hm
        go_wp2_with fail
        refine (HC.out _).mono ?_
        rintro e w' ⟨rfl, rfl⟩
        go_wp2_with fail
        go_ret
        exact ⟨ret_bool HMB.out.symm, by (repeat' (first | exact Below.refl _ _ | exact Below.refl _ _ | refine balloc ?_ _ | refine Below.drew ?_ | refine below_drewN ?_ _ | refine bset ?_ (by first | omega | (simp <;> omega)) _))⟩
      | true =>
        have HC := Lib.hid (fun W => show Calls Try.prog 83 #[.int .i64 B] W fun e w' => e = .returned (.bool true) ∧ W = w' by have := HF1.out W; rw [hf] at this; exact this)
        have hnx : preB A B C D E F 2 = true := by
          have hp := hP.out
          simp only [preB] at hp ⊢
          rw [hp, hf]; rfl
        have HN := Lib.hid hnx
        clear hf hnx
        go_wp2_with fail
        refine (HC.out _).mono ?_
        rintro e w' ⟨rfl, rfl⟩
        go_wp2_with fail
        go_round
        case rel => exact ⟨2, by omega, rfl, HN.out⟩
        case measure => simp [intOf]
    · cases hf : fixB C with
      | false =>
        have HC := Lib.hid (fun W => show Calls Try.prog 83 #[.int .i64 C] W fun e w' => e = .returned (.bool false) ∧ W = w' by have := HF2.out W; rw [hf] at this; exact this)
        have hm : mb = false := by rw [← HM.out]; unfold mayB; simp [hf]
        have HMB := Lib.hid hm
        clear hf hm
        go_wp2_with fail
        refine (HC.out _).mono ?_
        rintro e w' ⟨rfl, rfl⟩
        go_wp2_with fail
        go_ret
        exact ⟨ret_bool HMB.out.symm, by (repeat' (first | exact Below.refl _ _ | exact Below.refl _ _ | refine balloc ?_ _ | refine Below.drew ?_ | refine below_drewN ?_ _ | refine bset ?_ (by first | omega | (simp <;> omega)) _))⟩
      | true =>
        have HC := Lib.hid (fun W => show Calls Try.prog 83 #[.int .i64 C] W fun e w' => e = .returned (.bool true) ∧ W = w' by have := HF2.out W; rw [hf] at this; exact this)
        have hnx : preB A B C D E F 3 = true := by
          have hp := hP.out
          simp only [preB] at hp ⊢
          rw [hp, hf]; rfl
        have HN := Lib.hid hnx
        clear hf hnx
        go_wp2_with fail
        refine (HC.out _).mono ?_
        rintro e w' ⟨rfl, rfl⟩
        go_wp2_with fail
        go_round
        case rel => exact ⟨3, by omega, rfl, HN.out⟩
        case measure => simp [intOf]
    · cases hf : fixB D with
      | false =>
        have HC := Lib.hid (fun W => show Calls Try.prog 83 #[.int .i64 D] W fun e w' => e = .returned (.bool false) ∧ W = w' by have := HF3.out W; rw [hf] at this; exact this)
        have hm : mb = false := by rw [← HM.out]; unfold mayB; simp [hf]
        have HMB := Lib.hid hm
        clear hf hm
        go_wp2_with fail
        refine (HC.out _).mono ?_
        rintro e w' ⟨rfl, rfl⟩
        go_wp2_with fail
        go_ret
        exact ⟨ret_bool HMB.out.symm, by (repeat' (first | exact Below.refl _ _ | exact Below.refl _ _ | refine balloc ?_ _ | refine Below.drew ?_ | refine below_drewN ?_ _ | refine bset ?_ (by first | omega | (simp <;> omega)) _))⟩
      | true =>
        have HC := Lib.hid (fun W => show Calls Try.prog 83 #[.int .i64 D] W fun e w' => e = .returned (.bool true) ∧ W = w' by have := HF3.out W; rw [hf] at this; exact this)
        have hnx : preB A B C D E F 4 = true := by
          have hp := hP.out
          simp only [preB] at hp ⊢
          rw [hp, hf]; rfl
        have HN := Lib.hid hnx
        clear hf hnx
        go_wp2_with fail
        refine (HC.out _).mono ?_
        rintro e w' ⟨rfl, rfl⟩
        go_wp2_with fail
        go_round
        case rel => exact ⟨4, by omega, rfl, HN.out⟩
        case measure => simp [intOf]
    · cases hf : fixB E with
      | false =>
        have HC := Lib.hid (fun W => show Calls Try.prog 83 #[.int .i64 E] W fun e w' => e = .returned (.bool false) ∧ W = w' by have := HF4.out W; rw [hf] at this; exact this)
        have hm : mb = false := by rw [← HM.out]; unfold mayB; simp [hf]
        have HMB := Lib.hid hm
        clear hf hm
        go_wp2_with fail
        refine (HC.out _).mono ?_
        rintro e w' ⟨rfl, rfl⟩
        go_wp2_with fail
        go_ret
        exact ⟨ret_bool HMB.out.symm, by (repeat' (first | exact Below.refl _ _ | exact Below.refl _ _ | refine balloc ?_ _ | refine Below.drew ?_ | refine below_drewN ?_ _ | refine bset ?_ (by first | omega | (simp <;> omega)) _))⟩
      | true =>
        have HC := Lib.hid (fun W => show Calls Try.prog 83 #[.int .i64 E] W fun e w' => e = .returned (.bool true) ∧ W = w' by have := HF4.out W; rw [hf] at this; exact this)
        have hnx : preB A B C D E F 5 = true := by
          have hp := hP.out
          simp only [preB] at hp ⊢
          rw [hp, hf]; rfl
        have HN := Lib.hid hnx
        clear hf hnx
        go_wp2_with fail
        refine (HC.out _).mono ?_
        rintro e w' ⟨rfl, rfl⟩
        go_wp2_with fail
        go_round
        case rel => exact ⟨5, by omega, rfl, HN.out⟩
        case measure => simp [intOf]
    · cases hf : fixB F with
      | false =>
        have HC := Lib.hid (fun W => show Calls Try.prog 83 #[.int .i64 F] W fun e w' => e = .returned (.bool false) ∧ W = w' by have := HF5.out W; rw [hf] at this; exact this)
        have hm : mb = false := by rw [← HM.out]; unfold mayB; simp [hf]
        have HMB := Lib.hid hm
        clear hf hm
        go_wp2_with fail
        refine (HC.out _).mono ?_
        rintro e w' ⟨rfl, rfl⟩
        go_wp2_with fail
        go_ret
        exact ⟨ret_bool HMB.out.symm, by (repeat' (first | exact Below.refl _ _ | exact Below.refl _ _ | refine balloc ?_ _ | refine Below.drew ?_ | refine below_drewN ?_ _ | refine bset ?_ (by first | omega | (simp <;> omega)) _))⟩
      | true =>
        have HC := Lib.hid (fun W => show Calls Try.prog 83 #[.int .i64 F] W fun e w' => e = .returned (.bool true) ∧ W = w' by have := HF5.out W; rw [hf] at this; exact this)
        have hnx : preB A B C D E F 6 = true := by
          have hp := hP.out
          simp only [preB] at hp ⊢
          show (fixB A && fixB B && fixB C && fixB D && fixB E && fixB F) = true
          rw [hp, hf]; rfl
        have HN := Lib.hid hnx
        clear hf hnx
        go_wp2_with fail
        refine (HC.out _).mono ?_
        rintro e w' ⟨rfl, rfl⟩
        go_wp2_with fail
        go_round
        case rel => exact ⟨6, by omega, rfl, HN.out⟩
        case measure => simp [intOf]
    · have hm : mb = true := by rw [← HM.out]; exact hP.out
      have HMB := Lib.hid hm
      clear hm
      go_wp2_with fail
      go_ret
      exact ⟨ret_bool HMB.out.symm, by (repeat' (first | exact Below.refl _ _ | exact Below.refl _ _ | refine balloc ?_ _ | refine Below.drew ?_ | refine below_drewN ?_ _ | refine bset ?_ (by first | omega | (simp <;> omega)) _))⟩

end Go.Proofs.Ytegpjjkbbdfggaa.mt

/-
  Layer 37: a row's bytes, downwards division, and the reference's.
-/
namespace Go.Proofs.Ytegpjjkbbdfggaa.im
set_option linter.unusedVariables false
set_option linter.unusedSimpArgs false
open Go.RowKit bs mt

/-- the bytes of a row -/
def rowI (W B : Int) : Int := (W * B + 7) / 8
theorem rowI_bd {W B : Int} (hW : 1 ≤ W ∧ W ≤ 64) (hB : 1 ≤ B ∧ B ≤ 8) : 1 ≤ W * B ∧ W * B ≤ 512 ∧ 1 ≤ rowI W B ∧ rowI W B ≤ 64 := by
  have h1 := Int.mul_nonneg (show 0 ≤ W - 1 by omega) (show 0 ≤ B - 1 by omega)
  have h2 := Int.mul_nonneg (show 0 ≤ 64 - W by omega) (show 0 ≤ B by omega)
  simp only [Int.sub_mul, Int.mul_sub] at h1 h2
  unfold rowI
  omega

theorem row_any (W H B : Int) (s : ByteArray) (w : World) (hW : 1 ≤ W ∧ W ≤ 64) (hB : 1 ≤ B ∧ B ≤ 8) : Calls Try.prog 55 #[.agg #[.int .i64 W, .int .i64 H, .int .i64 B, .string s]] w fun e w' => e = .returned (.int .i64 (rowI W B)) ∧ Below w.heap.size w w' := by
  obtain ⟨h1, h2, _, _⟩ := rowI_bd hW hB
  have hd : (W * B + 7).tdiv 8 = rowI W B := Int.tdiv_eq_ediv_of_nonneg (by omega)
  generalize rowI W B = R at *
  generalize hn : W * B = n at *
  go_enter Try.func55, Try.ntmps55
  go_wp2_with fail
  go_ret
  exact ⟨rfl, by (repeat' (first | exact Below.refl _ _ | exact Below.refl _ _ | refine balloc ?_ _ | refine Below.drew ?_ | refine below_drewN ?_ _ | refine bset ?_ (by first | omega | (simp <;> omega)) _))⟩
theorem rrow_any (W H B : Int) (s : ByteArray) (w : World) (hW : 1 ≤ W ∧ W ≤ 64) (hB : 1 ≤ B ∧ B ≤ 8) : Calls Try.prog 56 #[.agg #[.int .i64 W, .int .i64 H, .int .i64 B, .string s]] w fun e w' => e = .returned (.int .i64 (rowI W B)) ∧ Below w.heap.size w w' := by
  obtain ⟨h1, h2, _, _⟩ := rowI_bd hW hB
  have hd : (W * B + 7).tdiv 8 = rowI W B := Int.tdiv_eq_ediv_of_nonneg (by omega)
  generalize rowI W B = R at *
  generalize hn : W * B = n at *
  go_enter Try.func56, Try.ntmps56
  go_wp2_with fail
  go_ret
  exact ⟨rfl, by (repeat' (first | exact Below.refl _ _ | exact Below.refl _ _ | refine balloc ?_ _ | refine Below.drew ?_ | refine below_drewN ?_ _ | refine bset ?_ (by first | omega | (simp <;> omega)) _))⟩

/-- division downwards by what is not 0 -/
def downI (a b : Int) : Int := if b < 0 then (-a) / (-b) else a / b
theorem div_cases (a b : Int) (hb : 0 < b) : ∃ q r : Int, a.tdiv b = q ∧ a.tmod b = r ∧ (r < 0 → a / b = q - 1 ∧ a < 0) ∧ (0 ≤ r → a / b = q) ∧ (r = 0 → a / b = q) ∧ (r ≠ 0 → a < 0 → r < 0) ∧ (0 ≤ a → 0 ≤ r) ∧ (0 ≤ a → q ≤ a ∧ 0 ≤ q) ∧ (a ≤ 0 → a ≤ q ∧ q ≤ 0) ∧ -b < r ∧ r < b := by
  refine ⟨a.tdiv b, a.tmod b, rfl, rfl, ?_⟩
  have e := Int.mul_tdiv_add_tmod a b
  have n := Int.natAbs_tdiv_le_natAbs a b
  rcases Int.le_total 0 a with h | h
  · have h1 := Int.tmod_nonneg b h
    have h2 := Int.tmod_lt_of_pos a hb
    have h3 := Int.tdiv_nonneg h (Int.le_of_lt hb)
    have h4 : a / b = a.tdiv b := (Int.tdiv_eq_ediv_of_nonneg h).symm
    refine ⟨fun _ => by omega, fun _ => h4, fun _ => h4, fun _ _ => by omega, fun _ => h1, fun _ => by omega, fun _ => by omega, by omega, h2⟩
  · have h1 : (-a).tmod b = -a.tmod b := Int.neg_tmod a b
    have h2 : (-a).tdiv b = -a.tdiv b := Int.neg_tdiv a b
    have h3 := Int.tmod_nonneg b (show 0 ≤ -a by omega)
    have h4 := Int.tmod_lt_of_pos (-a) hb
    have h5 := Int.tdiv_nonneg (show 0 ≤ -a by omega) (Int.le_of_lt hb)
    rw [h1] at h3 h4
    rw [h2] at h5
    have u0 : a.tmod b = 0 → a / b = a.tdiv b := fun h0 => ((Int.ediv_emod_unique hb).2 ⟨by rw [h0] at e; omega, Int.le_refl 0, hb⟩).1
    have u1 : a.tmod b < 0 → a / b = a.tdiv b - 1 := fun h0 => ((Int.ediv_emod_unique (r := a.tmod b + b) hb).2 ⟨by rw [Int.mul_sub]; omega, by omega, by omega⟩).1
    refine ⟨fun h0 => ⟨u1 h0, ?_⟩, fun h0 => u0 (by omega), u0, fun _ _ => by omega, fun ha => by (have h9 : a = 0 := by omega); subst h9; simp, fun ha => ⟨by omega, by omega⟩, fun _ => ⟨by omega, by omega⟩, by omega, by omega⟩
    rcases Int.lt_or_eq_of_le h with h6 | h6
    · exact h6
    · subst h6; simp at h0

theorem down_any (a b : Int) (w : World) (ha : -4611686018427387904 ≤ a ∧ a ≤ 4611686018427387904) (hb : -4611686018427387904 ≤ b ∧ b ≤ 4611686018427387904) (h0 : b ≠ 0) : Calls Try.prog 102 #[.int .i64 a, .int .i64 b] w fun e w' => e = .returned (.int .i64 (downI a b)) ∧ w = w' := by
  unfold downI
  rcases Int.lt_or_gt_of_ne h0 with h | h
  · obtain ⟨q, r, hq, hr, c1, c2, c3, c4, c5, c6, c7, c8, c9⟩ := div_cases (-a) (-b) (by omega)
    rw [if_pos h]
    have hz : (-b == 0) = false := by simp; omega
    rcases Int.lt_or_le r 0 with hr0 | hr0
    · rw [(c1 hr0).1]
      go_enter Try.func102, Try.ntmps102
      go_wp2_with fail
      go_ret
      exact ⟨rfl, rfl⟩
    · rw [c2 hr0]
      go_enter Try.func102, Try.ntmps102
      go_wp2_with fail
      go_ret
      exact ⟨rfl, rfl⟩
  · obtain ⟨q, r, hq, hr, c1, c2, c3, c4, c5, c6, c7, c8, c9⟩ := div_cases a b h
    rw [if_neg (by omega)]
    have hz : (b == 0) = false := by simp; omega
    rcases Int.lt_or_le r 0 with hr0 | hr0
    · rw [(c1 hr0).1]
      go_enter Try.func102, Try.ntmps102
      go_wp2_with fail
      go_ret
      exact ⟨rfl, rfl⟩
    · rw [c2 hr0]
      go_enter Try.func102, Try.ntmps102
      go_wp2_with fail
      go_ret
      exact ⟨rfl, rfl⟩

theorem rcoord_any (v : Int) (w : World) : Calls Try.prog 61 #[.int .i64 v] w fun e w' => e = .returned (.bool (decide (-8191 ≤ v) && decide (v ≤ 8191))) ∧ w = w' := by
  by_cases h0 : v < -8191
  · rw [show (decide (-8191 ≤ v) && decide (v ≤ 8191)) = false by simp; omega]
    go_enter Try.func61, Try.ntmps61
    go_wp2_with fail
    go_ret
    exact ⟨rfl, rfl⟩
  · rw [show (decide (-8191 ≤ v) && decide (v ≤ 8191)) = decide (v ≤ 8191) by rw [show decide (-8191 ≤ v) = true by simp; omega]; rfl]
    go_enter Try.func61, Try.ntmps61
    go_wp2_with fail
    go_ret
    exact ⟨rfl, rfl⟩

theorem rdiv_any (a b : Int) (w : World) (ha : -4611686018427387904 ≤ a ∧ a ≤ 4611686018427387904) (hb : -4611686018427387904 ≤ b ∧ b ≤ 4611686018427387904) (h0 : b ≠ 0) : Calls Try.prog 63 #[.int .i64 a, .int .i64 b] w fun e w' => e = .returned (.int .i64 (downI a b)) ∧ w = w' := by
  unfold downI
  have hz : (b == 0) = false := by simp; omega
  rcases Int.lt_or_gt_of_ne h0 with h | h
  · obtain ⟨q, r, hq, hr, c1, c2, c3, c4, c5, c6, c7, c8, c9⟩ := div_cases (-a) (-b) (by omega)
    rw [if_pos h]
    have hq2 : a.tdiv b = q := by rw [← hq, Int.neg_tdiv_neg]
    have hr2 : a.tmod b = -r := by rw [← hr, Int.neg_tmod, Int.tmod_neg]; omega
    clear hq hr
    by_cases hr0 : r = 0
    · rw [c3 hr0]
      subst hr0
      go_enter Try.func63, Try.ntmps63
      go_wp2_with fail
      go_ret
      exact ⟨rfl, rfl⟩
    · have hn : (-r == 0) = false := by simp; omega
      have hn2 : ¬ -r = 0 := by omega
      by_cases ha0 : a < 0
      · rw [c2 (c5 (by omega))]
        go_enter Try.func63, Try.ntmps63
        go_wp2_with fail
        go_ret
        exact ⟨rfl, rfl⟩
      · have hap : a ≠ 0 := by intro h9; subst h9; simp at hr2; omega
        rw [(c1 (c4 hr0 (by omega))).1]
        go_enter Try.func63, Try.ntmps63
        go_wp2_with fail
        go_ret
        exact ⟨rfl, rfl⟩
  · obtain ⟨q, r, hq, hr, c1, c2, c3, c4, c5, c6, c7, c8, c9⟩ := div_cases a b h
    rw [if_neg (by omega)]
    by_cases hr0 : r = 0
    · rw [c3 hr0]
      subst hr0
      go_enter Try.func63, Try.ntmps63
      go_wp2_with fail
      go_ret
      exact ⟨rfl, rfl⟩
    · have hn : (r == 0) = false := by simp; omega
      have hn3 : (r != 0) = true := by simp; omega
      have hbn : decide (b < 0) = false := by simp; omega
      by_cases ha0 : a < 0
      · rw [(c1 (c4 hr0 ha0)).1]
        go_enter Try.func63, Try.ntmps63
        go_wp2_with fail
        go_ret
        exact ⟨rfl, rfl⟩
      · rw [c2 (c5 (by omega))]
        go_enter Try.func63, Try.ntmps63
        go_wp2_with fail
        go_ret
        exact ⟨rfl, rfl⟩
end Go.Proofs.Ytegpjjkbbdfggaa.im

/-
  Layer 37: which images may be; a sample; and the reference's.
-/
namespace Go.Proofs.Ytegpjjkbbdfggaa.im
set_option linter.unusedVariables false
set_option linter.unusedSimpArgs false
open Go.RowKit bs mt

/-- may an image be -/
def bitsB (B : Int) : Bool := B == 1 || B == 2 || B == 4 || B == 8
def sidesB (W H : Int) : Bool := decide (1 ≤ W) && decide (W ≤ 64) && decide (1 ≤ H) && decide (H ≤ 64)
def mayI (W H B n : Int) : Bool := bitsB B && sidesB W H && n == H * rowI W B
theorem bitsB_of {B : Int} (h : bitsB B = true) : B = 1 ∨ B = 2 ∨ B = 4 ∨ B = 8 := by
  unfold bitsB at h
  simp at h
  omega
theorem mayI_bd {W H B n : Int} (h : mayI W H B n = true) : (B = 1 ∨ B = 2 ∨ B = 4 ∨ B = 8) ∧ (1 ≤ W ∧ W ≤ 64) ∧ (1 ≤ H ∧ H ≤ 64) ∧ n = H * rowI W B := by
  unfold mayI sidesB at h
  simp only [Bool.and_eq_true, decide_eq_true_eq, beq_iff_eq] at h
  exact ⟨bitsB_of h.1.1, ⟨h.1.2.1.1.1, h.1.2.1.1.2⟩, ⟨h.1.2.1.2, h.1.2.2⟩, h.2⟩
theorem area_bd {H R : Int} (hH : 1 ≤ H ∧ H ≤ 64) (hR : 1 ≤ R ∧ R ≤ 64) : 1 ≤ H * R ∧ H * R ≤ 4096 := by
  have h1 := Int.mul_nonneg (show 0 ≤ H - 1 by omega) (show 0 ≤ R - 1 by omega)
  have h2 := Int.mul_nonneg (show 0 ≤ 64 - H by omega) (show 0 ≤ R by omega)
  simp only [Int.sub_mul, Int.mul_sub] at h1 h2
  omega

set_option maxRecDepth 100000 in
set_option maxHeartbeats 1600000 in
theorem may37_nob (W H B : Int) (s : ByteArray) (w : World) (h1 : (B == 1) = false) (h2 : (B == 2) = false) (h4 : (B == 4) = false) (h8 : (B == 8) = false) : Calls Try.prog 14 #[.agg #[.int .i64 W, .int .i64 H, .int .i64 B, .string s]] w fun e w' => e = .returned (.bool false) ∧ Below w.heap.size w w' := by
  go_enter Try.func14, Try.ntmps14
  go_wp2_with fail
  go_ret
  exact ⟨rfl, by (repeat' (first | exact Below.refl _ _ | exact Below.refl _ _ | refine balloc ?_ _ | refine Below.drew ?_ | refine below_drewN ?_ _ | refine bset ?_ (by first | omega | (simp <;> omega)) _))⟩
set_option maxRecDepth 100000 in
set_option maxHeartbeats 1600000 in
theorem may37_bits (W H B : Int) (s : ByteArray) (w : World) (hs : (s.size : Int) ≤ 9223372036854775807) (hB : B = 1 ∨ B = 2 ∨ B = 4 ∨ B = 8) : Calls Try.prog 14 #[.agg #[.int .i64 W, .int .i64 H, .int .i64 B, .string s]] w fun e w' => e = .returned (.bool (sidesB W H && (s.size : Int) == H * rowI W B)) ∧ Below w.heap.size w w' := by
  by_cases g0 : W < 1
  · rw [show sidesB W H = false by unfold sidesB; simp; omega]
    simp only [Bool.false_and]
    have t0 : decide (1 ≤ W) = false := by simp; omega
    rcases hB with rfl | rfl | rfl | rfl
    · go_enter Try.func14, Try.ntmps14
      go_wp2_with fail
      have K := Blk.new w 23 #[.int .i64 W, .int .i64 H, .int .i64 1, .string s]
      have hbw : Below w.heap.size w (w.alloc (.cells #[.int .i64 W, .int .i64 H, .int .i64 1, .string s] 23)) := by (repeat' (first | exact Below.refl _ _ | exact Below.refl _ _ | refine balloc ?_ _ | refine Below.drew ?_ | refine below_drewN ?_ _ | refine bset ?_ (by first | omega | (simp <;> omega)) _))
      generalize hw2 : w.alloc (.cells #[.int .i64 W, .int .i64 H, .int .i64 1, .string s] 23) = w2 at *
      clear hw2
      have c0 := K.cell 0
      have c1 := K.cell 1
      have c2 := K.cell 2
      have c3 := K.cell 3
      have lK := K.lt
      simp only [List.getElem?_toArray, List.getElem?_cons_succ, List.getElem?_cons_zero] at c0 c1 c2 c3
      have u0 : ∀ u : Up w2, u.val.cell? ⟨w.heap.size, 0, none⟩ = some (.int .i64 W) := fun u => (u.cell lK).trans c0
      have u1 : ∀ u : Up w2, u.val.cell? ⟨w.heap.size, 1, none⟩ = some (.int .i64 H) := fun u => (u.cell lK).trans c1
      have u2 : ∀ u : Up w2, u.val.cell? ⟨w.heap.size, 2, none⟩ = some (.int .i64 1) := fun u => (u.cell lK).trans c2
      have u3 : ∀ u : Up w2, u.val.cell? ⟨w.heap.size, 3, none⟩ = some (.string s) := fun u => (u.cell lK).trans c3
      refine wp_region_up (by kernel_rfl) (by kernel_rfl) ?_
      repeat (go_big_quiet_step (fail))
      refine wpQuiet_nil ?_
      rintro _ ⟨uq, rfl⟩
      replace K := K.below uq.ok lK
      replace hbw := btrans hbw uq.ok
      generalize hwx : uq.val = w3 at *
      clear hwx uq u0 u1 u2 u3 c0 c1 c2 c3 lK
      go_wp2_with fail
      go_ret
      exact ⟨rfl, hbw⟩
    · go_enter Try.func14, Try.ntmps14
      go_wp2_with fail
      have K := Blk.new w 23 #[.int .i64 W, .int .i64 H, .int .i64 2, .string s]
      have hbw : Below w.heap.size w (w.alloc (.cells #[.int .i64 W, .int .i64 H, .int .i64 2, .string s] 23)) := by (repeat' (first | exact Below.refl _ _ | exact Below.refl _ _ | refine balloc ?_ _ | refine Below.drew ?_ | refine below_drewN ?_ _ | refine bset ?_ (by first | omega | (simp <;> omega)) _))
      generalize hw2 : w.alloc (.cells #[.int .i64 W, .int .i64 H, .int .i64 2, .string s] 23) = w2 at *
      clear hw2
      have c0 := K.cell 0
      have c1 := K.cell 1
      have c2 := K.cell 2
      have c3 := K.cell 3
      have lK := K.lt
      simp only [List.getElem?_toArray, List.getElem?_cons_succ, List.getElem?_cons_zero] at c0 c1 c2 c3
      have u0 : ∀ u : Up w2, u.val.cell? ⟨w.heap.size, 0, none⟩ = some (.int .i64 W) := fun u => (u.cell lK).trans c0
      have u1 : ∀ u : Up w2, u.val.cell? ⟨w.heap.size, 1, none⟩ = some (.int .i64 H) := fun u => (u.cell lK).trans c1
      have u2 : ∀ u : Up w2, u.val.cell? ⟨w.heap.size, 2, none⟩ = some (.int .i64 2) := fun u => (u.cell lK).trans c2
      have u3 : ∀ u : Up w2, u.val.cell? ⟨w.heap.size, 3, none⟩ = some (.string s) := fun u => (u.cell lK).trans c3
      refine wp_region_up (by kernel_rfl) (by kernel_rfl) ?_
      repeat (go_big_quiet_step (fail))
      refine wpQuiet_nil ?_
      rintro _ ⟨uq, rfl⟩
      replace K := K.below uq.ok lK
      replace hbw := btrans hbw uq.ok
      generalize hwx : uq.val = w3 at *
      clear hwx uq u0 u1 u2 u3 c0 c1 c2 c3 lK
      go_wp2_with fail
      go_ret
      exact ⟨rfl, hbw⟩
    · go_enter Try.func14, Try.ntmps14
      go_wp2_with fail
      have K := Blk.new w 23 #[.int .i64 W, .int .i64 H, .int .i64 4, .string s]
      have hbw : Below w.heap.size w (w.alloc (.cells #[.int .i64 W, .int .i64 H, .int .i64 4, .string s] 23)) := by (repeat' (first | exact Below.refl _ _ | exact Below.refl _ _ | refine balloc ?_ _ | refine Below.drew ?_ | refine below_drewN ?_ _ | refine bset ?_ (by first | omega | (simp <;> omega)) _))
      generalize hw2 : w.alloc (.cells #[.int .i64 W, .int .i64 H, .int .i64 4, .string s] 23) = w2 at *
      clear hw2
      have c0 := K.cell 0
      have c1 := K.cell 1
      have c2 := K.cell 2
      have c3 := K.cell 3
      have lK := K.lt
      simp only [List.getElem?_toArray, List.getElem?_cons_succ, List.getElem?_cons_zero] at c0 c1 c2 c3
      have u0 : ∀ u : Up w2, u.val.cell? ⟨w.heap.size, 0, none⟩ = some (.int .i64 W) := fun u => (u.cell lK).trans c0
      have u1 : ∀ u : Up w2, u.val.cell? ⟨w.heap.size, 1, none⟩ = some (.int .i64 H) := fun u => (u.cell lK).trans c1
      have u2 : ∀ u : Up w2, u.val.cell? ⟨w.heap.size, 2, none⟩ = some (.int .i64 4) := fun u => (u.cell lK).trans c2
      have u3 : ∀ u : Up w2, u.val.cell? ⟨w.heap.size, 3, none⟩ = some (.string s) := fun u => (u.cell lK).trans c3
      refine wp_region_up (by kernel_rfl) (by kernel_rfl) ?_
      repeat (go_big_quiet_step (fail))
      refine wpQuiet_nil ?_
      rintro _ ⟨uq, rfl⟩
      replace K := K.below uq.ok lK
      replace hbw := btrans hbw uq.ok
      generalize hwx : uq.val = w3 at *
      clear hwx uq u0 u1 u2 u3 c0 c1 c2 c3 lK
      go_wp2_with fail
      go_ret
      exact ⟨rfl, hbw⟩
    · go_enter Try.func14, Try.ntmps14
      go_wp2_with fail
      have K := Blk.new w 23 #[.int .i64 W, .int .i64 H, .int .i64 8, .string s]
      have hbw : Below w.heap.size w (w.alloc (.cells #[.int .i64 W, .int .i64 H, .int .i64 8, .string s] 23)) := by (repeat' (first | exact Below.refl _ _ | exact Below.refl _ _ | refine balloc ?_ _ | refine Below.drew ?_ | refine below_drewN ?_ _ | refine bset ?_ (by first | omega | (simp <;> omega)) _))
      generalize hw2 : w.alloc (.cells #[.int .i64 W, .int .i64 H, .int .i64 8, .string s] 23) = w2 at *
      clear hw2
      have c0 := K.cell 0
      have c1 := K.cell 1
      have c2 := K.cell 2
      have c3 := K.cell 3
      have lK := K.lt
      simp only [List.getElem?_toArray, List.getElem?_cons_succ, List.getElem?_cons_zero] at c0 c1 c2 c3
      have u0 : ∀ u : Up w2, u.val.cell? ⟨w.heap.size, 0, none⟩ = some (.int .i64 W) := fun u => (u.cell lK).trans c0
      have u1 : ∀ u : Up w2, u.val.cell? ⟨w.heap.size, 1, none⟩ = some (.int .i64 H) := fun u => (u.cell lK).trans c1
      have u2 : ∀ u : Up w2, u.val.cell? ⟨w.heap.size, 2, none⟩ = some (.int .i64 8) := fun u => (u.cell lK).trans c2
      have u3 : ∀ u : Up w2, u.val.cell? ⟨w.heap.size, 3, none⟩ = some (.string s) := fun u => (u.cell lK).trans c3
      refine wp_region_up (by kernel_rfl) (by kernel_rfl) ?_
      repeat (go_big_quiet_step (fail))
      refine wpQuiet_nil ?_
      rintro _ ⟨uq, rfl⟩
      replace K := K.below uq.ok lK
      replace hbw := btrans hbw uq.ok
      generalize hwx : uq.val = w3 at *
      clear hwx uq u0 u1 u2 u3 c0 c1 c2 c3 lK
      go_wp2_with fail
      go_ret
      exact ⟨rfl, hbw⟩
  by_cases g1 : 64 < W
  · rw [show sidesB W H = false by unfold sidesB; simp; omega]
    simp only [Bool.false_and]
    have t0 : decide (1 ≤ W) = true := by simp; omega
    have t1 : decide (W ≤ 64) = false := by simp; omega
    rcases hB with rfl | rfl | rfl | rfl
    · go_enter Try.func14, Try.ntmps14
      go_wp2_with fail
      have K := Blk.new w 23 #[.int .i64 W, .int .i64 H, .int .i64 1, .string s]
      have hbw : Below w.heap.size w (w.alloc (.cells #[.int .i64 W, .int .i64 H, .int .i64 1, .string s] 23)) := by (repeat' (first | exact Below.refl _ _ | exact Below.refl _ _ | refine balloc ?_ _ | refine Below.drew ?_ | refine below_drewN ?_ _ | refine bset ?_ (by first | omega | (simp <;> omega)) _))
      generalize hw2 : w.alloc (.cells #[.int .i64 W, .int .i64 H, .int .i64 1, .string s] 23) = w2 at *
      clear hw2
      have c0 := K.cell 0
      have c1 := K.cell 1
      have c2 := K.cell 2
      have c3 := K.cell 3
      have lK := K.lt
      simp only [List.getElem?_toArray, List.getElem?_cons_succ, List.getElem?_cons_zero] at c0 c1 c2 c3
      have u0 : ∀ u : Up w2, u.val.cell? ⟨w.heap.size, 0, none⟩ = some (.int .i64 W) := fun u => (u.cell lK).trans c0
      have u1 : ∀ u : Up w2, u.val.cell? ⟨w.heap.size, 1, none⟩ = some (.int .i64 H) := fun u => (u.cell lK).trans c1
      have u2 : ∀ u : Up w2, u.val.cell? ⟨w.heap.size, 2, none⟩ = some (.int .i64 1) := fun u => (u.cell lK).trans c2
      have u3 : ∀ u : Up w2, u.val.cell? ⟨w.heap.size, 3, none⟩ = some (.string s) := fun u => (u.cell lK).trans c3
      refine wp_region_up (by kernel_rfl) (by kernel_rfl) ?_
      repeat (go_big_quiet_step (fail))
      refine wpQuiet_nil ?_
      rintro _ ⟨uq, rfl⟩
      replace K := K.below uq.ok lK
      replace hbw := btrans hbw uq.ok
      generalize hwx : uq.val = w3 at *
      clear hwx uq u0 u1 u2 u3 c0 c1 c2 c3 lK
      go_wp2_with fail
      go_ret
      exact ⟨rfl, hbw⟩
    · go_enter Try.func14, Try.ntmps14
      go_wp2_with fail
      have K := Blk.new w 23 #[.int .i64 W, .int .i64 H, .int .i64 2, .string s]
      have hbw : Below w.heap.size w (w.alloc (.cells #[.int .i64 W, .int .i64 H, .int .i64 2, .string s] 23)) := by (repeat' (first | exact Below.refl _ _ | exact Below.refl _ _ | refine balloc ?_ _ | refine Below.drew ?_ | refine below_drewN ?_ _ | refine bset ?_ (by first | omega | (simp <;> omega)) _))
      generalize hw2 : w.alloc (.cells #[.int .i64 W, .int .i64 H, .int .i64 2, .string s] 23) = w2 at *
      clear hw2
      have c0 := K.cell 0
      have c1 := K.cell 1
      have c2 := K.cell 2
      have c3 := K.cell 3
      have lK := K.lt
      simp only [List.getElem?_toArray, List.getElem?_cons_succ, List.getElem?_cons_zero] at c0 c1 c2 c3
      have u0 : ∀ u : Up w2, u.val.cell? ⟨w.heap.size, 0, none⟩ = some (.int .i64 W) := fun u => (u.cell lK).trans c0
      have u1 : ∀ u : Up w2, u.val.cell? ⟨w.heap.size, 1, none⟩ = some (.int .i64 H) := fun u => (u.cell lK).trans c1
      have u2 : ∀ u : Up w2, u.val.cell? ⟨w.heap.size, 2, none⟩ = some (.int .i64 2) := fun u => (u.cell lK).trans c2
      have u3 : ∀ u : Up w2, u.val.cell? ⟨w.heap.size, 3, none⟩ = some (.string s) := fun u => (u.cell lK).trans c3
      refine wp_region_up (by kernel_rfl) (by kernel_rfl) ?_
      repeat (go_big_quiet_step (fail))
      refine wpQuiet_nil ?_
      rintro _ ⟨uq, rfl⟩
      replace K := K.below uq.ok lK
      replace hbw := btrans hbw uq.ok
      generalize hwx : uq.val = w3 at *
      clear hwx uq u0 u1 u2 u3 c0 c1 c2 c3 lK
      go_wp2_with fail
      go_ret
      exact ⟨rfl, hbw⟩
    · go_enter Try.func14, Try.ntmps14
      go_wp2_with fail
      have K := Blk.new w 23 #[.int .i64 W, .int .i64 H, .int .i64 4, .string s]
      have hbw : Below w.heap.size w (w.alloc (.cells #[.int .i64 W, .int .i64 H, .int .i64 4, .string s] 23)) := by (repeat' (first | exact Below.refl _ _ | exact Below.refl _ _ | refine balloc ?_ _ | refine Below.drew ?_ | refine below_drewN ?_ _ | refine bset ?_ (by first | omega | (simp <;> omega)) _))
      generalize hw2 : w.alloc (.cells #[.int .i64 W, .int .i64 H, .int .i64 4, .string s] 23) = w2 at *
      clear hw2
      have c0 := K.cell 0
      have c1 := K.cell 1
      have c2 := K.cell 2
      have c3 := K.cell 3
      have lK := K.lt
      simp only [List.getElem?_toArray, List.getElem?_cons_succ, List.getElem?_cons_zero] at c0 c1 c2 c3
      have u0 : ∀ u : Up w2, u.val.cell? ⟨w.heap.size, 0, none⟩ = some (.int .i64 W) := fun u => (u.cell lK).trans c0
      have u1 : ∀ u : Up w2, u.val.cell? ⟨w.heap.size, 1, none⟩ = some (.int .i64 H) := fun u => (u.cell lK).trans c1
      have u2 : ∀ u : Up w2, u.val.cell? ⟨w.heap.size, 2, none⟩ = some (.int .i64 4) := fun u => (u.cell lK).trans c2
      have u3 : ∀ u : Up w2, u.val.cell? ⟨w.heap.size, 3, none⟩ = some (.string s) := fun u => (u.cell lK).trans c3
      refine wp_region_up (by kernel_rfl) (by kernel_rfl) ?_
      repeat (go_big_quiet_step (fail))
      refine wpQuiet_nil ?_
      rintro _ ⟨uq, rfl⟩
      replace K := K.below uq.ok lK
      replace hbw := btrans hbw uq.ok
      generalize hwx : uq.val = w3 at *
      clear hwx uq u0 u1 u2 u3 c0 c1 c2 c3 lK
      go_wp2_with fail
      go_ret
      exact ⟨rfl, hbw⟩
    · go_enter Try.func14, Try.ntmps14
      go_wp2_with fail
      have K := Blk.new w 23 #[.int .i64 W, .int .i64 H, .int .i64 8, .string s]
      have hbw : Below w.heap.size w (w.alloc (.cells #[.int .i64 W, .int .i64 H, .int .i64 8, .string s] 23)) := by (repeat' (first | exact Below.refl _ _ | exact Below.refl _ _ | refine balloc ?_ _ | refine Below.drew ?_ | refine below_drewN ?_ _ | refine bset ?_ (by first | omega | (simp <;> omega)) _))
      generalize hw2 : w.alloc (.cells #[.int .i64 W, .int .i64 H, .int .i64 8, .string s] 23) = w2 at *
      clear hw2
      have c0 := K.cell 0
      have c1 := K.cell 1
      have c2 := K.cell 2
      have c3 := K.cell 3
      have lK := K.lt
      simp only [List.getElem?_toArray, List.getElem?_cons_succ, List.getElem?_cons_zero] at c0 c1 c2 c3
      have u0 : ∀ u : Up w2, u.val.cell? ⟨w.heap.size, 0, none⟩ = some (.int .i64 W) := fun u => (u.cell lK).trans c0
      have u1 : ∀ u : Up w2, u.val.cell? ⟨w.heap.size, 1, none⟩ = some (.int .i64 H) := fun u => (u.cell lK).trans c1
      have u2 : ∀ u : Up w2, u.val.cell? ⟨w.heap.size, 2, none⟩ = some (.int .i64 8) := fun u => (u.cell lK).trans c2
      have u3 : ∀ u : Up w2, u.val.cell? ⟨w.heap.size, 3, none⟩ = some (.string s) := fun u => (u.cell lK).trans c3
      refine wp_region_up (by kernel_rfl) (by kernel_rfl) ?_
      repeat (go_big_quiet_step (fail))
      refine wpQuiet_nil ?_
      rintro _ ⟨uq, rfl⟩
      replace K := K.below uq.ok lK
      replace hbw := btrans hbw uq.ok
      generalize hwx : uq.val = w3 at *
      clear hwx uq u0 u1 u2 u3 c0 c1 c2 c3 lK
      go_wp2_with fail
      go_ret
      exact ⟨rfl, hbw⟩
  by_cases g2 : H < 1
  · rw [show sidesB W H = false by unfold sidesB; simp; omega]
    simp only [Bool.false_and]
    have t0 : decide (1 ≤ W) = true := by simp; omega
    have t1 : decide (W ≤ 64) = true := by simp; omega
    have t2 : decide (1 ≤ H) = false := by simp; omega
    rcases hB with rfl | rfl | rfl | rfl
    · go_enter Try.func14, Try.ntmps14
      go_wp2_with fail
      have K := Blk.new w 23 #[.int .i64 W, .int .i64 H, .int .i64 1, .string s]
      have hbw : Below w.heap.size w (w.alloc (.cells #[.int .i64 W, .int .i64 H, .int .i64 1, .string s] 23)) := by (repeat' (first | exact Below.refl _ _ | exact Below.refl _ _ | refine balloc ?_ _ | refine Below.drew ?_ | refine below_drewN ?_ _ | refine bset ?_ (by first | omega | (simp <;> omega)) _))
      generalize hw2 : w.alloc (.cells #[.int .i64 W, .int .i64 H, .int .i64 1, .string s] 23) = w2 at *
      clear hw2
      have c0 := K.cell 0
      have c1 := K.cell 1
      have c2 := K.cell 2
      have c3 := K.cell 3
      have lK := K.lt
      simp only [List.getElem?_toArray, List.getElem?_cons_succ, List.getElem?_cons_zero] at c0 c1 c2 c3
      have u0 : ∀ u : Up w2, u.val.cell? ⟨w.heap.size, 0, none⟩ = some (.int .i64 W) := fun u => (u.cell lK).trans c0
      have u1 : ∀ u : Up w2, u.val.cell? ⟨w.heap.size, 1, none⟩ = some (.int .i64 H) := fun u => (u.cell lK).trans c1
      have u2 : ∀ u : Up w2, u.val.cell? ⟨w.heap.size, 2, none⟩ = some (.int .i64 1) := fun u => (u.cell lK).trans c2
      have u3 : ∀ u : Up w2, u.val.cell? ⟨w.heap.size, 3, none⟩ = some (.string s) := fun u => (u.cell lK).trans c3
      refine wp_region_up (by kernel_rfl) (by kernel_rfl) ?_
      repeat (go_big_quiet_step (fail))
      refine wpQuiet_nil ?_
      rintro _ ⟨uq, rfl⟩
      replace K := K.below uq.ok lK
      replace hbw := btrans hbw uq.ok
      generalize hwx : uq.val = w3 at *
      clear hwx uq u0 u1 u2 u3 c0 c1 c2 c3 lK
      go_wp2_with fail
      go_ret
      exact ⟨rfl, hbw⟩
    · go_enter Try.func14, Try.ntmps14
      go_wp2_with fail
      have K := Blk.new w 23 #[.int .i64 W, .int .i64 H, .int .i64 2, .string s]
      have hbw : Below w.heap.size w (w.alloc (.cells #[.int .i64 W, .int .i64 H, .int .i64 2, .string s] 23)) := by (repeat' (first | exact Below.refl _ _ | exact Below.refl _ _ | refine balloc ?_ _ | refine Below.drew ?_ | refine below_drewN ?_ _ | refine bset ?_ (by first | omega | (simp <;> omega)) _))
      generalize hw2 : w.alloc (.cells #[.int .i64 W, .int .i64 H, .int .i64 2, .string s] 23) = w2 at *
      clear hw2
      have c0 := K.cell 0
      have c1 := K.cell 1
      have c2 := K.cell 2
      have c3 := K.cell 3
      have lK := K.lt
      simp only [List.getElem?_toArray, List.getElem?_cons_succ, List.getElem?_cons_zero] at c0 c1 c2 c3
      have u0 : ∀ u : Up w2, u.val.cell? ⟨w.heap.size, 0, none⟩ = some (.int .i64 W) := fun u => (u.cell lK).trans c0
      have u1 : ∀ u : Up w2, u.val.cell? ⟨w.heap.size, 1, none⟩ = some (.int .i64 H) := fun u => (u.cell lK).trans c1
      have u2 : ∀ u : Up w2, u.val.cell? ⟨w.heap.size, 2, none⟩ = some (.int .i64 2) := fun u => (u.cell lK).trans c2
      have u3 : ∀ u : Up w2, u.val.cell? ⟨w.heap.size, 3, none⟩ = some (.string s) := fun u => (u.cell lK).trans c3
      refine wp_region_up (by kernel_rfl) (by kernel_rfl) ?_
      repeat (go_big_quiet_step (fail))
      refine wpQuiet_nil ?_
      rintro _ ⟨uq, rfl⟩
      replace K := K.below uq.ok lK
      replace hbw := btrans hbw uq.ok
      generalize hwx : uq.val = w3 at *
      clear hwx uq u0 u1 u2 u3 c0 c1 c2 c3 lK
      go_wp2_with fail
      go_ret
      exact ⟨rfl, hbw⟩
    · go_enter Try.func14, Try.ntmps14
      go_wp2_with fail
      have K := Blk.new w 23 #[.int .i64 W, .int .i64 H, .int .i64 4, .string s]
      have hbw : Below w.heap.size w (w.alloc (.cells #[.int .i64 W, .int .i64 H, .int .i64 4, .string s] 23)) := by (repeat' (first | exact Below.refl _ _ | exact Below.refl _ _ | refine balloc ?_ _ | refine Below.drew ?_ | refine below_drewN ?_ _ | refine bset ?_ (by first | omega | (simp <;> omega)) _))
      generalize hw2 : w.alloc (.cells #[.int .i64 W, .int .i64 H, .int .i64 4, .string s] 23) = w2 at *
      clear hw2
      have c0 := K.cell 0
      have c1 := K.cell 1
      have c2 := K.cell 2
      have c3 := K.cell 3
      have lK := K.lt
      simp only [List.getElem?_toArray, List.getElem?_cons_succ, List.getElem?_cons_zero] at c0 c1 c2 c3
      have u0 : ∀ u : Up w2, u.val.cell? ⟨w.heap.size, 0, none⟩ = some (.int .i64 W) := fun u => (u.cell lK).trans c0
      have u1 : ∀ u : Up w2, u.val.cell? ⟨w.heap.size, 1, none⟩ = some (.int .i64 H) := fun u => (u.cell lK).trans c1
      have u2 : ∀ u : Up w2, u.val.cell? ⟨w.heap.size, 2, none⟩ = some (.int .i64 4) := fun u => (u.cell lK).trans c2
      have u3 : ∀ u : Up w2, u.val.cell? ⟨w.heap.size, 3, none⟩ = some (.string s) := fun u => (u.cell lK).trans c3
      refine wp_region_up (by kernel_rfl) (by kernel_rfl) ?_
      repeat (go_big_quiet_step (fail))
      refine wpQuiet_nil ?_
      rintro _ ⟨uq, rfl⟩
      replace K := K.below uq.ok lK
      replace hbw := btrans hbw uq.ok
      generalize hwx : uq.val = w3 at *
      clear hwx uq u0 u1 u2 u3 c0 c1 c2 c3 lK
      go_wp2_with fail
      go_ret
      exact ⟨rfl, hbw⟩
    · go_enter Try.func14, Try.ntmps14
      go_wp2_with fail
      have K := Blk.new w 23 #[.int .i64 W, .int .i64 H, .int .i64 8, .string s]
      have hbw : Below w.heap.size w (w.alloc (.cells #[.int .i64 W, .int .i64 H, .int .i64 8, .string s] 23)) := by (repeat' (first | exact Below.refl _ _ | exact Below.refl _ _ | refine balloc ?_ _ | refine Below.drew ?_ | refine below_drewN ?_ _ | refine bset ?_ (by first | omega | (simp <;> omega)) _))
      generalize hw2 : w.alloc (.cells #[.int .i64 W, .int .i64 H, .int .i64 8, .string s] 23) = w2 at *
      clear hw2
      have c0 := K.cell 0
      have c1 := K.cell 1
      have c2 := K.cell 2
      have c3 := K.cell 3
      have lK := K.lt
      simp only [List.getElem?_toArray, List.getElem?_cons_succ, List.getElem?_cons_zero] at c0 c1 c2 c3
      have u0 : ∀ u : Up w2, u.val.cell? ⟨w.heap.size, 0, none⟩ = some (.int .i64 W) := fun u => (u.cell lK).trans c0
      have u1 : ∀ u : Up w2, u.val.cell? ⟨w.heap.size, 1, none⟩ = some (.int .i64 H) := fun u => (u.cell lK).trans c1
      have u2 : ∀ u : Up w2, u.val.cell? ⟨w.heap.size, 2, none⟩ = some (.int .i64 8) := fun u => (u.cell lK).trans c2
      have u3 : ∀ u : Up w2, u.val.cell? ⟨w.heap.size, 3, none⟩ = some (.string s) := fun u => (u.cell lK).trans c3
      refine wp_region_up (by kernel_rfl) (by kernel_rfl) ?_
      repeat (go_big_quiet_step (fail))
      refine wpQuiet_nil ?_
      rintro _ ⟨uq, rfl⟩
      replace K := K.below uq.ok lK
      replace hbw := btrans hbw uq.ok
      generalize hwx : uq.val = w3 at *
      clear hwx uq u0 u1 u2 u3 c0 c1 c2 c3 lK
      go_wp2_with fail
      go_ret
      exact ⟨rfl, hbw⟩
  by_cases g3 : 64 < H
  · rw [show sidesB W H = false by unfold sidesB; simp; omega]
    simp only [Bool.false_and]
    have t0 : decide (1 ≤ W) = true := by simp; omega
    have t1 : decide (W ≤ 64) = true := by simp; omega
    have t2 : decide (1 ≤ H) = true := by simp; omega
    have t3 : decide (H ≤ 64) = false := by simp; omega
    rcases hB with rfl | rfl | rfl | rfl
    · go_enter Try.func14, Try.ntmps14
      go_wp2_with fail
      have K := Blk.new w 23 #[.int .i64 W, .int .i64 H, .int .i64 1, .string s]
      have hbw : Below w.heap.size w (w.alloc (.cells #[.int .i64 W, .int .i64 H, .int .i64 1, .string s] 23)) := by (repeat' (first | exact Below.refl _ _ | exact Below.refl _ _ | refine balloc ?_ _ | refine Below.drew ?_ | refine below_drewN ?_ _ | refine bset ?_ (by first | omega | (simp <;> omega)) _))
      generalize hw2 : w.alloc (.cells #[.int .i64 W, .int .i64 H, .int .i64 1, .string s] 23) = w2 at *
      clear hw2
      have c0 := K.cell 0
      have c1 := K.cell 1
      have c2 := K.cell 2
      have c3 := K.cell 3
      have lK := K.lt
      simp only [List.getElem?_toArray, List.getElem?_cons_succ, List.getElem?_cons_zero] at c0 c1 c2 c3
      have u0 : ∀ u : Up w2, u.val.cell? ⟨w.heap.size, 0, none⟩ = some (.int .i64 W) := fun u => (u.cell lK).trans c0
      have u1 : ∀ u : Up w2, u.val.cell? ⟨w.heap.size, 1, none⟩ = some (.int .i64 H) := fun u => (u.cell lK).trans c1
      have u2 : ∀ u : Up w2, u.val.cell? ⟨w.heap.size, 2, none⟩ = some (.int .i64 1) := fun u => (u.cell lK).trans c2
      have u3 : ∀ u : Up w2, u.val.cell? ⟨w.heap.size, 3, none⟩ = some (.string s) := fun u => (u.cell lK).trans c3
      refine wp_region_up (by kernel_rfl) (by kernel_rfl) ?_
      repeat (go_big_quiet_step (fail))
      refine wpQuiet_nil ?_
      rintro _ ⟨uq, rfl⟩
      replace K := K.below uq.ok lK
      replace hbw := btrans hbw uq.ok
      generalize hwx : uq.val = w3 at *
      clear hwx uq u0 u1 u2 u3 c0 c1 c2 c3 lK
      go_wp2_with fail
      go_ret
      exact ⟨rfl, hbw⟩
    · go_enter Try.func14, Try.ntmps14
      go_wp2_with fail
      have K := Blk.new w 23 #[.int .i64 W, .int .i64 H, .int .i64 2, .string s]
      have hbw : Below w.heap.size w (w.alloc (.cells #[.int .i64 W, .int .i64 H, .int .i64 2, .string s] 23)) := by (repeat' (first | exact Below.refl _ _ | exact Below.refl _ _ | refine balloc ?_ _ | refine Below.drew ?_ | refine below_drewN ?_ _ | refine bset ?_ (by first | omega | (simp <;> omega)) _))
      generalize hw2 : w.alloc (.cells #[.int .i64 W, .int .i64 H, .int .i64 2, .string s] 23) = w2 at *
      clear hw2
      have c0 := K.cell 0
      have c1 := K.cell 1
      have c2 := K.cell 2
      have c3 := K.cell 3
      have lK := K.lt
      simp only [List.getElem?_toArray, List.getElem?_cons_succ, List.getElem?_cons_zero] at c0 c1 c2 c3
      have u0 : ∀ u : Up w2, u.val.cell? ⟨w.heap.size, 0, none⟩ = some (.int .i64 W) := fun u => (u.cell lK).trans c0
      have u1 : ∀ u : Up w2, u.val.cell? ⟨w.heap.size, 1, none⟩ = some (.int .i64 H) := fun u => (u.cell lK).trans c1
      have u2 : ∀ u : Up w2, u.val.cell? ⟨w.heap.size, 2, none⟩ = some (.int .i64 2) := fun u => (u.cell lK).trans c2
      have u3 : ∀ u : Up w2, u.val.cell? ⟨w.heap.size, 3, none⟩ = some (.string s) := fun u => (u.cell lK).trans c3
      refine wp_region_up (by kernel_rfl) (by kernel_rfl) ?_
      repeat (go_big_quiet_step (fail))
      refine wpQuiet_nil ?_
      rintro _ ⟨uq, rfl⟩
      replace K := K.below uq.ok lK
      replace hbw := btrans hbw uq.ok
      generalize hwx : uq.val = w3 at *
      clear hwx uq u0 u1 u2 u3 c0 c1 c2 c3 lK
      go_wp2_with fail
      go_ret
      exact ⟨rfl, hbw⟩
    · go_enter Try.func14, Try.ntmps14
      go_wp2_with fail
      have K := Blk.new w 23 #[.int .i64 W, .int .i64 H, .int .i64 4, .string s]
      have hbw : Below w.heap.size w (w.alloc (.cells #[.int .i64 W, .int .i64 H, .int .i64 4, .string s] 23)) := by (repeat' (first | exact Below.refl _ _ | exact Below.refl _ _ | refine balloc ?_ _ | refine Below.drew ?_ | refine below_drewN ?_ _ | refine bset ?_ (by first | omega | (simp <;> omega)) _))
      generalize hw2 : w.alloc (.cells #[.int .i64 W, .int .i64 H, .int .i64 4, .string s] 23) = w2 at *
      clear hw2
      have c0 := K.cell 0
      have c1 := K.cell 1
      have c2 := K.cell 2
      have c3 := K.cell 3
      have lK := K.lt
      simp only [List.getElem?_toArray, List.getElem?_cons_succ, List.getElem?_cons_zero] at c0 c1 c2 c3
      have u0 : ∀ u : Up w2, u.val.cell? ⟨w.heap.size, 0, none⟩ = some (.int .i64 W) := fun u => (u.cell lK).trans c0
      have u1 : ∀ u : Up w2, u.val.cell? ⟨w.heap.size, 1, none⟩ = some (.int .i64 H) := fun u => (u.cell lK).trans c1
      have u2 : ∀ u : Up w2, u.val.cell? ⟨w.heap.size, 2, none⟩ = some (.int .i64 4) := fun u => (u.cell lK).trans c2
      have u3 : ∀ u : Up w2, u.val.cell? ⟨w.heap.size, 3, none⟩ = some (.string s) := fun u => (u.cell lK).trans c3
      refine wp_region_up (by kernel_rfl) (by kernel_rfl) ?_
      repeat (go_big_quiet_step (fail))
      refine wpQuiet_nil ?_
      rintro _ ⟨uq, rfl⟩
      replace K := K.below uq.ok lK
      replace hbw := btrans hbw uq.ok
      generalize hwx : uq.val = w3 at *
      clear hwx uq u0 u1 u2 u3 c0 c1 c2 c3 lK
      go_wp2_with fail
      go_ret
      exact ⟨rfl, hbw⟩
    · go_enter Try.func14, Try.ntmps14
      go_wp2_with fail
      have K := Blk.new w 23 #[.int .i64 W, .int .i64 H, .int .i64 8, .string s]
      have hbw : Below w.heap.size w (w.alloc (.cells #[.int .i64 W, .int .i64 H, .int .i64 8, .string s] 23)) := by (repeat' (first | exact Below.refl _ _ | exact Below.refl _ _ | refine balloc ?_ _ | refine Below.drew ?_ | refine below_drewN ?_ _ | refine bset ?_ (by first | omega | (simp <;> omega)) _))
      generalize hw2 : w.alloc (.cells #[.int .i64 W, .int .i64 H, .int .i64 8, .string s] 23) = w2 at *
      clear hw2
      have c0 := K.cell 0
      have c1 := K.cell 1
      have c2 := K.cell 2
      have c3 := K.cell 3
      have lK := K.lt
      simp only [List.getElem?_toArray, List.getElem?_cons_succ, List.getElem?_cons_zero] at c0 c1 c2 c3
      have u0 : ∀ u : Up w2, u.val.cell? ⟨w.heap.size, 0, none⟩ = some (.int .i64 W) := fun u => (u.cell lK).trans c0
      have u1 : ∀ u : Up w2, u.val.cell? ⟨w.heap.size, 1, none⟩ = some (.int .i64 H) := fun u => (u.cell lK).trans c1
      have u2 : ∀ u : Up w2, u.val.cell? ⟨w.heap.size, 2, none⟩ = some (.int .i64 8) := fun u => (u.cell lK).trans c2
      have u3 : ∀ u : Up w2, u.val.cell? ⟨w.heap.size, 3, none⟩ = some (.string s) := fun u => (u.cell lK).trans c3
      refine wp_region_up (by kernel_rfl) (by kernel_rfl) ?_
      repeat (go_big_quiet_step (fail))
      refine wpQuiet_nil ?_
      rintro _ ⟨uq, rfl⟩
      replace K := K.below uq.ok lK
      replace hbw := btrans hbw uq.ok
      generalize hwx : uq.val = w3 at *
      clear hwx uq u0 u1 u2 u3 c0 c1 c2 c3 lK
      go_wp2_with fail
      go_ret
      exact ⟨rfl, hbw⟩
  have hW : 1 ≤ W ∧ W ≤ 64 := ⟨by omega, by omega⟩
  have hH : 1 ≤ H ∧ H ≤ 64 := ⟨by omega, by omega⟩
  rw [show sidesB W H = true by unfold sidesB; simp; omega]
  simp only [Bool.true_and]
  have hRb := rowI_bd hW (show 1 ≤ B ∧ B ≤ 8 by omega)
  have hpb := area_bd hH hRb.2.2
  obtain ⟨m0, m1, m2, m3⟩ := hRb
  obtain ⟨m4, m5⟩ := hpb
  obtain ⟨hH0, hH1⟩ := hH
  have t0 : decide (1 ≤ W) = true := by simp; omega
  have t1 : decide (W ≤ 64) = true := by simp; omega
  have t2 : decide (1 ≤ H) = true := by simp; omega
  have t3 : decide (H ≤ 64) = true := by simp; omega
  · skip
    rcases hB with rfl | rfl | rfl | rfl
    · go_enter Try.func14, Try.ntmps14
      go_wp2_with fail
      have K := Blk.new w 23 #[.int .i64 W, .int .i64 H, .int .i64 1, .string s]
      have hbw : Below w.heap.size w (w.alloc (.cells #[.int .i64 W, .int .i64 H, .int .i64 1, .string s] 23)) := by (repeat' (first | exact Below.refl _ _ | exact Below.refl _ _ | refine balloc ?_ _ | refine Below.drew ?_ | refine below_drewN ?_ _ | refine bset ?_ (by first | omega | (simp <;> omega)) _))
      generalize hw2 : w.alloc (.cells #[.int .i64 W, .int .i64 H, .int .i64 1, .string s] 23) = w2 at *
      clear hw2
      have c0 := K.cell 0
      have c1 := K.cell 1
      have c2 := K.cell 2
      have c3 := K.cell 3
      have lK := K.lt
      simp only [List.getElem?_toArray, List.getElem?_cons_succ, List.getElem?_cons_zero] at c0 c1 c2 c3
      have u0 : ∀ u : Up w2, u.val.cell? ⟨w.heap.size, 0, none⟩ = some (.int .i64 W) := fun u => (u.cell lK).trans c0
      have u1 : ∀ u : Up w2, u.val.cell? ⟨w.heap.size, 1, none⟩ = some (.int .i64 H) := fun u => (u.cell lK).trans c1
      have u2 : ∀ u : Up w2, u.val.cell? ⟨w.heap.size, 2, none⟩ = some (.int .i64 1) := fun u => (u.cell lK).trans c2
      have u3 : ∀ u : Up w2, u.val.cell? ⟨w.heap.size, 3, none⟩ = some (.string s) := fun u => (u.cell lK).trans c3
      have HU := Lib.hid (fun u : Up w2 => up_of (u := u) (row_any W H 1 s u.val hW (by decide)))
      generalize hR : rowI W 1 = R at *
      generalize hp : H * R = p at *
      refine wp_region_up (by kernel_rfl) (by kernel_rfl) ?_
      repeat (go_big_quiet_step (fail))
      go_big_quiet_step (exact HU.out _)
      repeat (go_big_quiet_step (fail))
      refine wpQuiet_nil ?_
      rintro _ ⟨uq, rfl⟩
      replace K := K.below uq.ok lK
      replace hbw := btrans hbw uq.ok
      generalize hwx : uq.val = w3 at *
      clear hwx uq u0 u1 u2 u3 c0 c1 c2 c3 lK
      go_wp2_with fail
      go_ret
      exact ⟨by rw [hR, hp]; rfl, hbw⟩
    · go_enter Try.func14, Try.ntmps14
      go_wp2_with fail
      have K := Blk.new w 23 #[.int .i64 W, .int .i64 H, .int .i64 2, .string s]
      have hbw : Below w.heap.size w (w.alloc (.cells #[.int .i64 W, .int .i64 H, .int .i64 2, .string s] 23)) := by (repeat' (first | exact Below.refl _ _ | exact Below.refl _ _ | refine balloc ?_ _ | refine Below.drew ?_ | refine below_drewN ?_ _ | refine bset ?_ (by first | omega | (simp <;> omega)) _))
      generalize hw2 : w.alloc (.cells #[.int .i64 W, .int .i64 H, .int .i64 2, .string s] 23) = w2 at *
      clear hw2
      have c0 := K.cell 0
      have c1 := K.cell 1
      have c2 := K.cell 2
      have c3 := K.cell 3
      have lK := K.lt
      simp only [List.getElem?_toArray, List.getElem?_cons_succ, List.getElem?_cons_zero] at c0 c1 c2 c3
      have u0 : ∀ u : Up w2, u.val.cell? ⟨w.heap.size, 0, none⟩ = some (.int .i64 W) := fun u => (u.cell lK).trans c0
      have u1 : ∀ u : Up w2, u.val.cell? ⟨w.heap.size, 1, none⟩ = some (.int .i64 H) := fun u => (u.cell lK).trans c1
      have u2 : ∀ u : Up w2, u.val.cell? ⟨w.heap.size, 2, none⟩ = some (.int .i64 2) := fun u => (u.cell lK).trans c2
      have u3 : ∀ u : Up w2, u.val.cell? ⟨w.heap.size, 3, none⟩ = some (.string s) := fun u => (u.cell lK).trans c3
      have HU := Lib.hid (fun u : Up w2 => up_of (u := u) (row_any W H 2 s u.val hW (by decide)))
      generalize hR : rowI W 2 = R at *
      generalize hp : H * R = p at *
      refine wp_region_up (by kernel_rfl) (by kernel_rfl) ?_
      repeat (go_big_quiet_step (fail))
      go_big_quiet_step (exact HU.out _)
      repeat (go_big_quiet_step (fail))
      refine wpQuiet_nil ?_
      rintro _ ⟨uq, rfl⟩
      replace K := K.below uq.ok lK
      replace hbw := btrans hbw uq.ok
      generalize hwx : uq.val = w3 at *
      clear hwx uq u0 u1 u2 u3 c0 c1 c2 c3 lK
      go_wp2_with fail
      go_ret
      exact ⟨by rw [hR, hp]; rfl, hbw⟩
    · go_enter Try.func14, Try.ntmps14
      go_wp2_with fail
      have K := Blk.new w 23 #[.int .i64 W, .int .i64 H, .int .i64 4, .string s]
      have hbw : Below w.heap.size w (w.alloc (.cells #[.int .i64 W, .int .i64 H, .int .i64 4, .string s] 23)) := by (repeat' (first | exact Below.refl _ _ | exact Below.refl _ _ | refine balloc ?_ _ | refine Below.drew ?_ | refine below_drewN ?_ _ | refine bset ?_ (by first | omega | (simp <;> omega)) _))
      generalize hw2 : w.alloc (.cells #[.int .i64 W, .int .i64 H, .int .i64 4, .string s] 23) = w2 at *
      clear hw2
      have c0 := K.cell 0
      have c1 := K.cell 1
      have c2 := K.cell 2
      have c3 := K.cell 3
      have lK := K.lt
      simp only [List.getElem?_toArray, List.getElem?_cons_succ, List.getElem?_cons_zero] at c0 c1 c2 c3
      have u0 : ∀ u : Up w2, u.val.cell? ⟨w.heap.size, 0, none⟩ = some (.int .i64 W) := fun u => (u.cell lK).trans c0
      have u1 : ∀ u : Up w2, u.val.cell? ⟨w.heap.size, 1, none⟩ = some (.int .i64 H) := fun u => (u.cell lK).trans c1
      have u2 : ∀ u : Up w2, u.val.cell? ⟨w.heap.size, 2, none⟩ = some (.int .i64 4) := fun u => (u.cell lK).trans c2
      have u3 : ∀ u : Up w2, u.val.cell? ⟨w.heap.size, 3, none⟩ = some (.string s) := fun u => (u.cell lK).trans c3
      have HU := Lib.hid (fun u : Up w2 => up_of (u := u) (row_any W H 4 s u.val hW (by decide)))
      generalize hR : rowI W 4 = R at *
      generalize hp : H * R = p at *
      refine wp_region_up (by kernel_rfl) (by kernel_rfl) ?_
      repeat (go_big_quiet_step (fail))
      go_big_quiet_step (exact HU.out _)
      repeat (go_big_quiet_step (fail))
      refine wpQuiet_nil ?_
      rintro _ ⟨uq, rfl⟩
      replace K := K.below uq.ok lK
      replace hbw := btrans hbw uq.ok
      generalize hwx : uq.val = w3 at *
      clear hwx uq u0 u1 u2 u3 c0 c1 c2 c3 lK
      go_wp2_with fail
      go_ret
      exact ⟨by rw [hR, hp]; rfl, hbw⟩
    · go_enter Try.func14, Try.ntmps14
      go_wp2_with fail
      have K := Blk.new w 23 #[.int .i64 W, .int .i64 H, .int .i64 8, .string s]
      have hbw : Below w.heap.size w (w.alloc (.cells #[.int .i64 W, .int .i64 H, .int .i64 8, .string s] 23)) := by (repeat' (first | exact Below.refl _ _ | exact Below.refl _ _ | refine balloc ?_ _ | refine Below.drew ?_ | refine below_drewN ?_ _ | refine bset ?_ (by first | omega | (simp <;> omega)) _))
      generalize hw2 : w.alloc (.cells #[.int .i64 W, .int .i64 H, .int .i64 8, .string s] 23) = w2 at *
      clear hw2
      have c0 := K.cell 0
      have c1 := K.cell 1
      have c2 := K.cell 2
      have c3 := K.cell 3
      have lK := K.lt
      simp only [List.getElem?_toArray, List.getElem?_cons_succ, List.getElem?_cons_zero] at c0 c1 c2 c3
      have u0 : ∀ u : Up w2, u.val.cell? ⟨w.heap.size, 0, none⟩ = some (.int .i64 W) := fun u => (u.cell lK).trans c0
      have u1 : ∀ u : Up w2, u.val.cell? ⟨w.heap.size, 1, none⟩ = some (.int .i64 H) := fun u => (u.cell lK).trans c1
      have u2 : ∀ u : Up w2, u.val.cell? ⟨w.heap.size, 2, none⟩ = some (.int .i64 8) := fun u => (u.cell lK).trans c2
      have u3 : ∀ u : Up w2, u.val.cell? ⟨w.heap.size, 3, none⟩ = some (.string s) := fun u => (u.cell lK).trans c3
      have HU := Lib.hid (fun u : Up w2 => up_of (u := u) (row_any W H 8 s u.val hW (by decide)))
      generalize hR : rowI W 8 = R at *
      generalize hp : H * R = p at *
      refine wp_region_up (by kernel_rfl) (by kernel_rfl) ?_
      repeat (go_big_quiet_step (fail))
      go_big_quiet_step (exact HU.out _)
      repeat (go_big_quiet_step (fail))
      refine wpQuiet_nil ?_
      rintro _ ⟨uq, rfl⟩
      replace K := K.below uq.ok lK
      replace hbw := btrans hbw uq.ok
      generalize hwx : uq.val = w3 at *
      clear hwx uq u0 u1 u2 u3 c0 c1 c2 c3 lK
      go_wp2_with fail
      go_ret
      exact ⟨by rw [hR, hp]; rfl, hbw⟩

theorem may37_any (W H B : Int) (s : ByteArray) (w : World) (hs : (s.size : Int) ≤ 9223372036854775807) : Calls Try.prog 14 #[.agg #[.int .i64 W, .int .i64 H, .int .i64 B, .string s]] w fun e w' => e = .returned (.bool (mayI W H B s.size)) ∧ Below w.heap.size w w' := by
  unfold mayI
  cases hb : bitsB B with
  | true => have := may37_bits W H B s w hs (bitsB_of hb); simpa using this
  | false =>
    have h := hb
    unfold bitsB at h
    simp only [Bool.or_eq_false_iff] at h
    exact may37_nob W H B s w h.1.1.1 h.1.1.2 h.1.2 h.2
set_option maxRecDepth 100000 in
set_option maxHeartbeats 1600000 in
theorem rmay37_any (W H B : Int) (s : ByteArray) (w : World) (hs : (s.size : Int) ≤ 9223372036854775807) : Calls Try.prog 15 #[.agg #[.int .i64 W, .int .i64 H, .int .i64 B, .string s]] w fun e w' => e = .returned (.bool (mayI W H B s.size)) ∧ Below w.heap.size w w' := by
  by_cases g0 : W < 1
  · rw [show mayI W H B s.size = false by unfold mayI; rw [show sidesB W H = false by unfold sidesB; simp; omega]; simp]
    go_enter Try.func15, Try.ntmps15
    go_wp2_with fail
    go_ret
    exact ⟨rfl, by (repeat' (first | exact Below.refl _ _ | exact Below.refl _ _ | refine balloc ?_ _ | refine Below.drew ?_ | refine below_drewN ?_ _ | refine bset ?_ (by first | omega | (simp <;> omega)) _))⟩
  by_cases g1 : 64 < W
  · rw [show mayI W H B s.size = false by unfold mayI; rw [show sidesB W H = false by unfold sidesB; simp; omega]; simp]
    go_enter Try.func15, Try.ntmps15
    go_wp2_with fail
    go_ret
    exact ⟨rfl, by (repeat' (first | exact Below.refl _ _ | exact Below.refl _ _ | refine balloc ?_ _ | refine Below.drew ?_ | refine below_drewN ?_ _ | refine bset ?_ (by first | omega | (simp <;> omega)) _))⟩
  by_cases g2 : H < 1
  · rw [show mayI W H B s.size = false by unfold mayI; rw [show sidesB W H = false by unfold sidesB; simp; omega]; simp]
    go_enter Try.func15, Try.ntmps15
    go_wp2_with fail
    go_ret
    exact ⟨rfl, by (repeat' (first | exact Below.refl _ _ | exact Below.refl _ _ | refine balloc ?_ _ | refine Below.drew ?_ | refine below_drewN ?_ _ | refine bset ?_ (by first | omega | (simp <;> omega)) _))⟩
  by_cases g3 : 64 < H
  · rw [show mayI W H B s.size = false by unfold mayI; rw [show sidesB W H = false by unfold sidesB; simp; omega]; simp]
    go_enter Try.func15, Try.ntmps15
    go_wp2_with fail
    go_ret
    exact ⟨rfl, by (repeat' (first | exact Below.refl _ _ | exact Below.refl _ _ | refine balloc ?_ _ | refine Below.drew ?_ | refine below_drewN ?_ _ | refine bset ?_ (by first | omega | (simp <;> omega)) _))⟩
  cases hb : bitsB B with
  | false =>
    rw [show mayI W H B s.size = false by unfold mayI; rw [hb]; rfl]
    have h := hb
    unfold bitsB at h
    simp only [Bool.or_eq_false_iff, beq_eq_false_iff_ne, ne_eq] at h
    obtain ⟨⟨⟨h1, h2⟩, h4⟩, h8⟩ := h
    clear hb
    have n1 : (B != 1) = true := by simp [h1]
    have n2 : (B != 2) = true := by simp [h2]
    have n4 : (B != 4) = true := by simp [h4]
    have n8 : (B != 8) = true := by simp [h8]
    go_enter Try.func15, Try.ntmps15
    go_wp2_with fail
    go_ret
    exact ⟨rfl, by (repeat' (first | exact Below.refl _ _ | exact Below.refl _ _ | refine balloc ?_ _ | refine Below.drew ?_ | refine below_drewN ?_ _ | refine bset ?_ (by first | omega | (simp <;> omega)) _))⟩
  | true =>
    have hB := bitsB_of hb
    have hW : 1 ≤ W ∧ W ≤ 64 := ⟨by omega, by omega⟩
    have hH : 1 ≤ H ∧ H ≤ 64 := ⟨by omega, by omega⟩
    rw [show mayI W H B s.size = ((s.size : Int) == H * rowI W B) by unfold mayI; rw [hb, show sidesB W H = true by unfold sidesB; simp; omega]; simp]
    have hRb := rowI_bd hW (show 1 ≤ B ∧ B ≤ 8 by omega)
    have hpb := area_bd hH hRb.2.2
    obtain ⟨m0, m1, m2, m3⟩ := hRb
    obtain ⟨m4, m5⟩ := hpb
    obtain ⟨hH0, hH1⟩ := hH
    clear hb
    rcases hB with rfl | rfl | rfl | rfl
    · go_enter Try.func15, Try.ntmps15
      go_wp2_with fail
      have K := Blk.new w 23 #[.int .i64 W, .int .i64 H, .int .i64 1, .string s]
      have hbw : Below w.heap.size w (w.alloc (.cells #[.int .i64 W, .int .i64 H, .int .i64 1, .string s] 23)) := by (repeat' (first | exact Below.refl _ _ | exact Below.refl _ _ | refine balloc ?_ _ | refine Below.drew ?_ | refine below_drewN ?_ _ | refine bset ?_ (by first | omega | (simp <;> omega)) _))
      generalize hw2 : w.alloc (.cells #[.int .i64 W, .int .i64 H, .int .i64 1, .string s] 23) = w2 at *
      clear hw2
      have c0 := K.cell 0
      have c1 := K.cell 1
      have c2 := K.cell 2
      have c3 := K.cell 3
      have lK := K.lt
      simp only [List.getElem?_toArray, List.getElem?_cons_succ, List.getElem?_cons_zero] at c0 c1 c2 c3
      have u0 : ∀ u : Up w2, u.val.cell? ⟨w.heap.size, 0, none⟩ = some (.int .i64 W) := fun u => (u.cell lK).trans c0
      have u1 : ∀ u : Up w2, u.val.cell? ⟨w.heap.size, 1, none⟩ = some (.int .i64 H) := fun u => (u.cell lK).trans c1
      have u2 : ∀ u : Up w2, u.val.cell? ⟨w.heap.size, 2, none⟩ = some (.int .i64 1) := fun u => (u.cell lK).trans c2
      have u3 : ∀ u : Up w2, u.val.cell? ⟨w.heap.size, 3, none⟩ = some (.string s) := fun u => (u.cell lK).trans c3
      have HU := Lib.hid (fun u : Up w2 => up_of (u := u) (rrow_any W H 1 s u.val hW (by decide)))
      generalize hR : rowI W 1 = R at *
      generalize hp : H * R = p at *
      refine wp_region_up (by kernel_rfl) (by kernel_rfl) ?_
      repeat (go_big_quiet_step (fail))
      go_big_quiet_step (exact HU.out _)
      repeat (go_big_quiet_step (fail))
      refine wpQuiet_nil ?_
      rintro _ ⟨uq, rfl⟩
      replace K := K.below uq.ok lK
      replace hbw := btrans hbw uq.ok
      generalize hwx : uq.val = w3 at *
      clear hwx uq u0 u1 u2 u3 c0 c1 c2 c3 lK
      go_wp2_with fail
      go_ret
      exact ⟨by rw [hR, hp]; rfl, hbw⟩
    · go_enter Try.func15, Try.ntmps15
      go_wp2_with fail
      have K := Blk.new w 23 #[.int .i64 W, .int .i64 H, .int .i64 2, .string s]
      have hbw : Below w.heap.size w (w.alloc (.cells #[.int .i64 W, .int .i64 H, .int .i64 2, .string s] 23)) := by (repeat' (first | exact Below.refl _ _ | exact Below.refl _ _ | refine balloc ?_ _ | refine Below.drew ?_ | refine below_drewN ?_ _ | refine bset ?_ (by first | omega | (simp <;> omega)) _))
      generalize hw2 : w.alloc (.cells #[.int .i64 W, .int .i64 H, .int .i64 2, .string s] 23) = w2 at *
      clear hw2
      have c0 := K.cell 0
      have c1 := K.cell 1
      have c2 := K.cell 2
      have c3 := K.cell 3
      have lK := K.lt
      simp only [List.getElem?_toArray, List.getElem?_cons_succ, List.getElem?_cons_zero] at c0 c1 c2 c3
      have u0 : ∀ u : Up w2, u.val.cell? ⟨w.heap.size, 0, none⟩ = some (.int .i64 W) := fun u => (u.cell lK).trans c0
      have u1 : ∀ u : Up w2, u.val.cell? ⟨w.heap.size, 1, none⟩ = some (.int .i64 H) := fun u => (u.cell lK).trans c1
      have u2 : ∀ u : Up w2, u.val.cell? ⟨w.heap.size, 2, none⟩ = some (.int .i64 2) := fun u => (u.cell lK).trans c2
      have u3 : ∀ u : Up w2, u.val.cell? ⟨w.heap.size, 3, none⟩ = some (.string s) := fun u => (u.cell lK).trans c3
      have HU := Lib.hid (fun u : Up w2 => up_of (u := u) (rrow_any W H 2 s u.val hW (by decide)))
      generalize hR : rowI W 2 = R at *
      generalize hp : H * R = p at *
      refine wp_region_up (by kernel_rfl) (by kernel_rfl) ?_
      repeat (go_big_quiet_step (fail))
      go_big_quiet_step (exact HU.out _)
      repeat (go_big_quiet_step (fail))
      refine wpQuiet_nil ?_
      rintro _ ⟨uq, rfl⟩
      replace K := K.below uq.ok lK
      replace hbw := btrans hbw uq.ok
      generalize hwx : uq.val = w3 at *
      clear hwx uq u0 u1 u2 u3 c0 c1 c2 c3 lK
      go_wp2_with fail
      go_ret
      exact ⟨by rw [hR, hp]; rfl, hbw⟩
    · go_enter Try.func15, Try.ntmps15
      go_wp2_with fail
      have K := Blk.new w 23 #[.int .i64 W, .int .i64 H, .int .i64 4, .string s]
      have hbw : Below w.heap.size w (w.alloc (.cells #[.int .i64 W, .int .i64 H, .int .i64 4, .string s] 23)) := by (repeat' (first | exact Below.refl _ _ | exact Below.refl _ _ | refine balloc ?_ _ | refine Below.drew ?_ | refine below_drewN ?_ _ | refine bset ?_ (by first | omega | (simp <;> omega)) _))
      generalize hw2 : w.alloc (.cells #[.int .i64 W, .int .i64 H, .int .i64 4, .string s] 23) = w2 at *
      clear hw2
      have c0 := K.cell 0
      have c1 := K.cell 1
      have c2 := K.cell 2
      have c3 := K.cell 3
      have lK := K.lt
      simp only [List.getElem?_toArray, List.getElem?_cons_succ, List.getElem?_cons_zero] at c0 c1 c2 c3
      have u0 : ∀ u : Up w2, u.val.cell? ⟨w.heap.size, 0, none⟩ = some (.int .i64 W) := fun u => (u.cell lK).trans c0
      have u1 : ∀ u : Up w2, u.val.cell? ⟨w.heap.size, 1, none⟩ = some (.int .i64 H) := fun u => (u.cell lK).trans c1
      have u2 : ∀ u : Up w2, u.val.cell? ⟨w.heap.size, 2, none⟩ = some (.int .i64 4) := fun u => (u.cell lK).trans c2
      have u3 : ∀ u : Up w2, u.val.cell? ⟨w.heap.size, 3, none⟩ = some (.string s) := fun u => (u.cell lK).trans c3
      have HU := Lib.hid (fun u : Up w2 => up_of (u := u) (rrow_any W H 4 s u.val hW (by decide)))
      generalize hR : rowI W 4 = R at *
      generalize hp : H * R = p at *
      refine wp_region_up (by kernel_rfl) (by kernel_rfl) ?_
      repeat (go_big_quiet_step (fail))
      go_big_quiet_step (exact HU.out _)
      repeat (go_big_quiet_step (fail))
      refine wpQuiet_nil ?_
      rintro _ ⟨uq, rfl⟩
      replace K := K.below uq.ok lK
      replace hbw := btrans hbw uq.ok
      generalize hwx : uq.val = w3 at *
      clear hwx uq u0 u1 u2 u3 c0 c1 c2 c3 lK
      go_wp2_with fail
      go_ret
      exact ⟨by rw [hR, hp]; rfl, hbw⟩
    · go_enter Try.func15, Try.ntmps15
      go_wp2_with fail
      have K := Blk.new w 23 #[.int .i64 W, .int .i64 H, .int .i64 8, .string s]
      have hbw : Below w.heap.size w (w.alloc (.cells #[.int .i64 W, .int .i64 H, .int .i64 8, .string s] 23)) := by (repeat' (first | exact Below.refl _ _ | exact Below.refl _ _ | refine balloc ?_ _ | refine Below.drew ?_ | refine below_drewN ?_ _ | refine bset ?_ (by first | omega | (simp <;> omega)) _))
      generalize hw2 : w.alloc (.cells #[.int .i64 W, .int .i64 H, .int .i64 8, .string s] 23) = w2 at *
      clear hw2
      have c0 := K.cell 0
      have c1 := K.cell 1
      have c2 := K.cell 2
      have c3 := K.cell 3
      have lK := K.lt
      simp only [List.getElem?_toArray, List.getElem?_cons_succ, List.getElem?_cons_zero] at c0 c1 c2 c3
      have u0 : ∀ u : Up w2, u.val.cell? ⟨w.heap.size, 0, none⟩ = some (.int .i64 W) := fun u => (u.cell lK).trans c0
      have u1 : ∀ u : Up w2, u.val.cell? ⟨w.heap.size, 1, none⟩ = some (.int .i64 H) := fun u => (u.cell lK).trans c1
      have u2 : ∀ u : Up w2, u.val.cell? ⟨w.heap.size, 2, none⟩ = some (.int .i64 8) := fun u => (u.cell lK).trans c2
      have u3 : ∀ u : Up w2, u.val.cell? ⟨w.heap.size, 3, none⟩ = some (.string s) := fun u => (u.cell lK).trans c3
      have HU := Lib.hid (fun u : Up w2 => up_of (u := u) (rrow_any W H 8 s u.val hW (by decide)))
      generalize hR : rowI W 8 = R at *
      generalize hp : H * R = p at *
      refine wp_region_up (by kernel_rfl) (by kernel_rfl) ?_
      repeat (go_big_quiet_step (fail))
      go_big_quiet_step (exact HU.out _)
      repeat (go_big_quiet_step (fail))
      refine wpQuiet_nil ?_
      rintro _ ⟨uq, rfl⟩
      replace K := K.below uq.ok lK
      replace hbw := btrans hbw uq.ok
      generalize hwx : uq.val = w3 at *
      clear hwx uq u0 u1 u2 u3 c0 c1 c2 c3 lK
      go_wp2_with fail
      go_ret
      exact ⟨by rw [hR, hp]; rfl, hbw⟩

end Go.Proofs.Ytegpjjkbbdfggaa.im

/-
  Layer 37: a sample, and the reference's.
-/
namespace Go.Proofs.Ytegpjjkbbdfggaa.im
set_option linter.unusedVariables false
set_option linter.unusedSimpArgs false
open Go.RowKit bs mt

def byteAt (s : ByteArray) (i : Int) : Int := (((s[i.toNat]?).getD 0).toNat : Int)
def bitsV (b k B : Int) : Int := bits .and .i64 (b / 2 ^ k.toNat) (wrap64 (wrap64 (2 ^ B.toNat) - 1))
def inB (W H x y : Int) : Bool := decide (0 ≤ x) && decide (x < W) && decide (0 ≤ y) && decide (y < H)
/-- the sample of an image that may be; -1: none -/
def sampV (W H B : Int) (s : ByteArray) (x y : Int) : Int :=
  if inB W H x y = true then bitsV (byteAt s (y * rowI W B + x * B / 8)) (8 - B - x * B % 8) B else -1
theorem inB_true {W H x y : Int} (h : inB W H x y = true) : (0 ≤ x ∧ x < W) ∧ 0 ≤ y ∧ y < H := by
  unfold inB at h
  simp only [Bool.and_eq_true, decide_eq_true_eq] at h
  omega

/-- where a sample lies -/
theorem place_in {W H B x y n : Int} (hm : mayI W H B n = true) (hx : 0 ≤ x ∧ x < W) (hy : 0 ≤ y ∧ y < H) :
    (0 ≤ x * B ∧ x * B ≤ 512) ∧ (0 ≤ y * rowI W B ∧ y * rowI W B ≤ 4096) ∧ (0 ≤ x * B / 8 ∧ x * B / 8 ≤ 64) ∧ (0 ≤ x * B % 8 ∧ x * B % 8 ≤ 7) ∧ 0 ≤ 8 - B - x * B % 8 ∧ (x * B).tdiv 8 = x * B / 8 ∧ (x * B).tmod 8 = x * B % 8 ∧ y * rowI W B + x * B / 8 < n := by
  obtain ⟨hB, hW, hH, hn⟩ := mayI_bd hm
  have hR := rowI_bd hW (show 1 ≤ B ∧ B ≤ 8 by omega)
  have h1 := Int.mul_le_mul_of_nonneg_right (show y ≤ H - 1 by omega) (show 0 ≤ rowI W B by omega)
  have h2 := Int.mul_nonneg hy.1 (show 0 ≤ rowI W B by omega)
  have h3 := area_bd hH hR.2.2
  rw [Int.sub_mul, Int.one_mul, ← hn] at h1
  rw [← hn] at h3
  have e : rowI W B = (W * B + 7) / 8 := rfl
  have h4 : (0 ≤ x * B ∧ x * B ≤ 512) ∧ x * B / 8 < rowI W B ∧ 0 ≤ 8 - B - x * B % 8 := by
    rw [e]
    clear h1 h2 h3 e hR hn
    rcases hB with rfl | rfl | rfl | rfl <;> omega
  have h5 := Int.tdiv_eq_ediv_of_nonneg (b := 8) h4.1.1
  have h6 := Int.tmod_eq_emod_of_nonneg (b := 8) h4.1.1
  refine ⟨h4.1, ⟨h2, by omega⟩, ⟨by omega, by omega⟩, ⟨by omega, by omega⟩, h4.2.2, h5, h6, by omega⟩
theorem byte_in (s : ByteArray) (i : Int) (h0 : 0 ≤ i) (h1 : i < s.size) : (0 ≤ byteAt s i ∧ byteAt s i ≤ 255) ∧
    ∀ w, (Instr.index 9 (.string s) (.int .i64 i)).run Try.prog w = .ok (.int .u8 (byteAt s i)) w := by
  have hl : i.toNat < s.size := by omega
  have e : s[i.toNat]? = some s[i.toNat] := ByteArray.getElem?_lt' s _ hl
  have hb : byteAt s i = (s[i.toNat].toNat : Int) := by unfold byteAt; rw [e]; rfl
  refine ⟨?_, fun w => ?_⟩
  · rw [hb]
    have := s[i.toNat].toNat_lt
    omega
  · rw [hb]
    simp [Instr.index, go_sem, h0, h1]

set_option maxRecDepth 100000 in
set_option maxHeartbeats 1600000 in
theorem sample_in (W H B x y : Int) (s : ByteArray) (w : World) (n R q d r b : Int) (hW : 1 ≤ W ∧ W ≤ 64) (hB0 : 1 ≤ B) (hB1 : B ≤ 8) (hx0 : 0 ≤ x) (hx1 : x < W) (hy0 : 0 ≤ y) (hy1 : y < H) (hn : x * B = n) (n0 : 0 ≤ n) (n1 : n ≤ 512) (hR : rowI W B = R) (hq : y * R = q) (q0 : 0 ≤ q) (q1 : q ≤ 4096) (hd : n.tdiv 8 = d) (d0 : 0 ≤ d) (d1 : d ≤ 64) (hr : n.tmod 8 = r) (r0 : 0 ≤ r) (r1 : r ≤ 7) (k0 : 0 ≤ 8 - B - r)
    (b0 : 0 ≤ b) (b1 : b ≤ 255) (JI : ∀ w, (Instr.index 9 (.string s) (.int .i64 (q + d))).run Try.prog w = .ok (.int .u8 b) w) : Calls Try.prog 57 #[.agg #[.int .i64 W, .int .i64 H, .int .i64 B, .string s], .int .i64 x, .int .i64 y] w fun e w' => e = .returned (.int .i64 (bitsV b (8 - B - r) B)) ∧ Below w.heap.size w w' := by
  have HR := Lib.hid (fun W' => show Calls Try.prog 55 #[.agg #[.int .i64 W, .int .i64 H, .int .i64 B, .string s]] W' fun e w' => e = .returned (.int .i64 R) ∧ Below W'.heap.size W' w' by have := row_any W H B s W' hW ⟨hB0, hB1⟩; rw [hR] at this; exact this)
  clear hR
  go_enter Try.func57, Try.ntmps57
  go_wp2_with fail
  have K := Blk.new w 23 #[.int .i64 W, .int .i64 H, .int .i64 B, .string s]
  have hbw : Below w.heap.size w (w.alloc (.cells #[.int .i64 W, .int .i64 H, .int .i64 B, .string s] 23)) := by (repeat' (first | exact Below.refl _ _ | exact Below.refl _ _ | refine balloc ?_ _ | refine Below.drew ?_ | refine below_drewN ?_ _ | refine bset ?_ (by first | omega | (simp <;> omega)) _))
  generalize hw2 : w.alloc (.cells #[.int .i64 W, .int .i64 H, .int .i64 B, .string s] 23) = w2 at *
  clear hw2
  have c0 := K.cell 0
  have c1 := K.cell 1
  have c2 := K.cell 2
  have c3 := K.cell 3
  have lK := K.lt
  simp only [List.getElem?_toArray, List.getElem?_cons_succ, List.getElem?_cons_zero] at c0 c1 c2 c3
  have u0 : ∀ u : Up w2, u.val.cell? ⟨w.heap.size, 0, none⟩ = some (.int .i64 W) := fun u => (u.cell lK).trans c0
  have u1 : ∀ u : Up w2, u.val.cell? ⟨w.heap.size, 1, none⟩ = some (.int .i64 H) := fun u => (u.cell lK).trans c1
  have u2 : ∀ u : Up w2, u.val.cell? ⟨w.heap.size, 2, none⟩ = some (.int .i64 B) := fun u => (u.cell lK).trans c2
  have u3 : ∀ u : Up w2, u.val.cell? ⟨w.heap.size, 3, none⟩ = some (.string s) := fun u => (u.cell lK).trans c3
  have HU := Lib.hid (fun u : Up w2 => up_of (u := u) (HR.out u.val))
  refine wp_region_up (by kernel_rfl) (by kernel_rfl) ?_
  repeat (go_big_quiet_step (fail))
  go_big_quiet_step (exact HU.out _)
  repeat (go_big_quiet_step (fail))
  refine wpQuiet_nil ?_
  rintro _ ⟨uq, rfl⟩
  replace K := K.below uq.ok lK
  replace hbw := btrans hbw uq.ok
  generalize hwx : uq.val = w3 at *
  clear hwx uq u0 u1 u2 u3 c0 c1 c2 c3 lK
  clear HU HR JI
  go_wp2_with fail
  have c0 := K.cell 0
  have c1 := K.cell 1
  have c2 := K.cell 2
  have c3 := K.cell 3
  have lK := K.lt
  simp only [List.getElem?_toArray, List.getElem?_cons_succ, List.getElem?_cons_zero] at c0 c1 c2 c3
  have u0 : ∀ u : Up w3, u.val.cell? ⟨w.heap.size, 0, none⟩ = some (.int .i64 W) := fun u => (u.cell lK).trans c0
  have u1 : ∀ u : Up w3, u.val.cell? ⟨w.heap.size, 1, none⟩ = some (.int .i64 H) := fun u => (u.cell lK).trans c1
  have u2 : ∀ u : Up w3, u.val.cell? ⟨w.heap.size, 2, none⟩ = some (.int .i64 B) := fun u => (u.cell lK).trans c2
  have u3 : ∀ u : Up w3, u.val.cell? ⟨w.heap.size, 3, none⟩ = some (.string s) := fun u => (u.cell lK).trans c3
  refine wp_region_up (by kernel_rfl) (by kernel_rfl) ?_
  repeat (go_big_quiet_step (fail))
  refine wpQuiet_nil ?_
  rintro _ ⟨uq, rfl⟩
  replace K := K.below uq.ok lK
  replace hbw := btrans hbw uq.ok
  generalize hwx : uq.val = w4 at *
  clear hwx uq u0 u1 u2 u3 c0 c1 c2 c3 lK
  go_wp2_with fail
  go_ret
  exact ⟨rfl, hbw⟩

set_option maxRecDepth 100000 in
set_option maxHeartbeats 1600000 in
theorem sample_may (W H B x y : Int) (s : ByteArray) (w : World) (hm : mayI W H B s.size = true) : Calls Try.prog 57 #[.agg #[.int .i64 W, .int .i64 H, .int .i64 B, .string s], .int .i64 x, .int .i64 y] w fun e w' => e = .returned (.int .i64 (sampV W H B s x y)) ∧ Below w.heap.size w w' := by
  by_cases g0 : x < 0
  · rw [show sampV W H B s x y = -1 by unfold sampV; rw [if_neg (by unfold inB; simp; omega)]]
    clear hm
    have K := Blk.new w 23 #[.int .i64 W, .int .i64 H, .int .i64 B, .string s]
    have hbw : Below w.heap.size w (w.alloc (.cells #[.int .i64 W, .int .i64 H, .int .i64 B, .string s] 23)) := by (repeat' (first | exact Below.refl _ _ | exact Below.refl _ _ | refine balloc ?_ _ | refine Below.drew ?_ | refine below_drewN ?_ _ | refine bset ?_ (by first | omega | (simp <;> omega)) _))
    go_enter Try.func57, Try.ntmps57
    go_wp2_with fail
    go_ret
    exact ⟨rfl, by (repeat' (first | exact hbw | exact Below.refl _ _ | refine balloc ?_ _ | refine Below.drew ?_ | refine below_drewN ?_ _ | refine bset ?_ (by first | omega | (simp <;> omega)) _))⟩
  by_cases g1 : W ≤ x
  · rw [show sampV W H B s x y = -1 by unfold sampV; rw [if_neg (by unfold inB; simp; omega)]]
    clear hm
    have K := Blk.new w 23 #[.int .i64 W, .int .i64 H, .int .i64 B, .string s]
    have hbw : Below w.heap.size w (w.alloc (.cells #[.int .i64 W, .int .i64 H, .int .i64 B, .string s] 23)) := by (repeat' (first | exact Below.refl _ _ | exact Below.refl _ _ | refine balloc ?_ _ | refine Below.drew ?_ | refine below_drewN ?_ _ | refine bset ?_ (by first | omega | (simp <;> omega)) _))
    go_enter Try.func57, Try.ntmps57
    go_wp2_with fail
    go_ret
    exact ⟨rfl, by (repeat' (first | exact hbw | exact Below.refl _ _ | refine balloc ?_ _ | refine Below.drew ?_ | refine below_drewN ?_ _ | refine bset ?_ (by first | omega | (simp <;> omega)) _))⟩
  by_cases g2 : y < 0
  · rw [show sampV W H B s x y = -1 by unfold sampV; rw [if_neg (by unfold inB; simp; omega)]]
    clear hm
    have K := Blk.new w 23 #[.int .i64 W, .int .i64 H, .int .i64 B, .string s]
    have hbw : Below w.heap.size w (w.alloc (.cells #[.int .i64 W, .int .i64 H, .int .i64 B, .string s] 23)) := by (repeat' (first | exact Below.refl _ _ | exact Below.refl _ _ | refine balloc ?_ _ | refine Below.drew ?_ | refine below_drewN ?_ _ | refine bset ?_ (by first | omega | (simp <;> omega)) _))
    go_enter Try.func57, Try.ntmps57
    go_wp2_with fail
    go_ret
    exact ⟨rfl, by (repeat' (first | exact hbw | exact Below.refl _ _ | refine balloc ?_ _ | refine Below.drew ?_ | refine below_drewN ?_ _ | refine bset ?_ (by first | omega | (simp <;> omega)) _))⟩
  by_cases g3 : H ≤ y
  · rw [show sampV W H B s x y = -1 by unfold sampV; rw [if_neg (by unfold inB; simp; omega)]]
    clear hm
    have K := Blk.new w 23 #[.int .i64 W, .int .i64 H, .int .i64 B, .string s]
    have hbw : Below w.heap.size w (w.alloc (.cells #[.int .i64 W, .int .i64 H, .int .i64 B, .string s] 23)) := by (repeat' (first | exact Below.refl _ _ | exact Below.refl _ _ | refine balloc ?_ _ | refine Below.drew ?_ | refine below_drewN ?_ _ | refine bset ?_ (by first | omega | (simp <;> omega)) _))
    go_enter Try.func57, Try.ntmps57
    go_wp2_with fail
    go_ret
    exact ⟨rfl, by (repeat' (first | exact hbw | exact Below.refl _ _ | refine balloc ?_ _ | refine Below.drew ?_ | refine below_drewN ?_ _ | refine bset ?_ (by first | omega | (simp <;> omega)) _))⟩
  have hx : 0 ≤ x ∧ x < W := ⟨by omega, by omega⟩
  have hy : 0 ≤ y ∧ y < H := ⟨by omega, by omega⟩
  obtain ⟨hB, hW, hH, hn⟩ := mayI_bd hm
  obtain ⟨p1, p2, p3, p4, p5, p6, p7, p8⟩ := place_in hm hx hy
  obtain ⟨p9, p10⟩ := byte_in s (y * rowI W B + x * B / 8) (by omega) p8
  rw [show sampV W H B s x y = bitsV (byteAt s (y * rowI W B + x * B / 8)) (8 - B - x * B % 8) B by unfold sampV; rw [if_pos (by unfold inB; simp; omega)]]
  exact sample_in W H B x y s w _ _ _ _ _ _ hW (by omega) (by omega) hx.1 hx.2 hy.1 hy.2 rfl p1.1 p1.2 rfl rfl p2.1 p2.2 p6 p3.1 p3.2 p7 p4.1 p4.2 p5 p9.1 p9.2 p10

set_option maxRecDepth 100000 in
set_option maxHeartbeats 1600000 in
theorem rsample_in (W H B x y : Int) (s : ByteArray) (w : World) (n R q d r b : Int) (hW : 1 ≤ W ∧ W ≤ 64) (hB0 : 1 ≤ B) (hB1 : B ≤ 8) (hx0 : 0 ≤ x) (hx1 : x < W) (hy0 : 0 ≤ y) (hy1 : y < H) (hn : x * B = n) (n0 : 0 ≤ n) (n1 : n ≤ 512) (hR : rowI W B = R) (hq : y * R = q) (q0 : 0 ≤ q) (q1 : q ≤ 4096) (hd : n.tdiv 8 = d) (d0 : 0 ≤ d) (d1 : d ≤ 64) (hr : n.tmod 8 = r) (r0 : 0 ≤ r) (r1 : r ≤ 7) (k0 : 0 ≤ 8 - B - r)
    (b0 : 0 ≤ b) (b1 : b ≤ 255) (JI : ∀ w, (Instr.index 9 (.string s) (.int .i64 (q + d))).run Try.prog w = .ok (.int .u8 b) w) (hm : mayI W H B s.size = true) (hs : (s.size : Int) ≤ 9223372036854775807) : Calls Try.prog 17 #[.agg #[.int .i64 W, .int .i64 H, .int .i64 B, .string s], .int .i64 x, .int .i64 y] w fun e w' => e = .returned (.int .i64 (bitsV b (8 - B - r) B)) ∧ Below w.heap.size w w' := by
  have HR := Lib.hid (fun W' => show Calls Try.prog 56 #[.agg #[.int .i64 W, .int .i64 H, .int .i64 B, .string s]] W' fun e w' => e = .returned (.int .i64 R) ∧ Below W'.heap.size W' w' by have := rrow_any W H B s W' hW ⟨hB0, hB1⟩; rw [hR] at this; exact this)
  have HM := Lib.hid (fun W' => show Calls Try.prog 15 #[.agg #[.int .i64 W, .int .i64 H, .int .i64 B, .string s]] W' fun e w' => e = .returned (.bool true) ∧ Below W'.heap.size W' w' by have := rmay37_any W H B s W' hs; rw [hm] at this; exact this)
  clear hm
  clear hR
  go_enter Try.func17, Try.ntmps17
  go_wp2_with fail
  have K := Blk.new w 23 #[.int .i64 W, .int .i64 H, .int .i64 B, .string s]
  have hbw : Below w.heap.size w (w.alloc (.cells #[.int .i64 W, .int .i64 H, .int .i64 B, .string s] 23)) := by (repeat' (first | exact Below.refl _ _ | exact Below.refl _ _ | refine balloc ?_ _ | refine Below.drew ?_ | refine below_drewN ?_ _ | refine bset ?_ (by first | omega | (simp <;> omega)) _))
  refine (HM.out _).mono ?_
  rintro e_ w2 ⟨rfl, hb1⟩
  replace K := K.below hb1 (by simp)
  replace hbw := btrans hbw hb1
  clear hb1 HM
  have c0 := K.cell 0
  have c1 := K.cell 1
  have c2 := K.cell 2
  have c3 := K.cell 3
  have lK := K.lt
  simp only [List.getElem?_toArray, List.getElem?_cons_succ, List.getElem?_cons_zero] at c0 c1 c2 c3
  go_wp2_with fail
  have u0 : ∀ u : Up w2, u.val.cell? ⟨w.heap.size, 0, none⟩ = some (.int .i64 W) := fun u => (u.cell lK).trans c0
  have u1 : ∀ u : Up w2, u.val.cell? ⟨w.heap.size, 1, none⟩ = some (.int .i64 H) := fun u => (u.cell lK).trans c1
  have u2 : ∀ u : Up w2, u.val.cell? ⟨w.heap.size, 2, none⟩ = some (.int .i64 B) := fun u => (u.cell lK).trans c2
  have u3 : ∀ u : Up w2, u.val.cell? ⟨w.heap.size, 3, none⟩ = some (.string s) := fun u => (u.cell lK).trans c3
  have HU := Lib.hid (fun u : Up w2 => up_of (u := u) (HR.out u.val))
  refine wp_region_up (by kernel_rfl) (by kernel_rfl) ?_
  repeat (go_big_quiet_step (fail))
  go_big_quiet_step (exact HU.out _)
  repeat (go_big_quiet_step (fail))
  refine wpQuiet_nil ?_
  rintro _ ⟨uq, rfl⟩
  replace K := K.below uq.ok lK
  replace hbw := btrans hbw uq.ok
  generalize hwx : uq.val = w3 at *
  clear hwx uq u0 u1 u2 u3 c0 c1 c2 c3 lK
  clear HU HR JI
  have c0 := K.cell 0
  have c1 := K.cell 1
  have c2 := K.cell 2
  have c3 := K.cell 3
  have lK := K.lt
  simp only [List.getElem?_toArray, List.getElem?_cons_succ, List.getElem?_cons_zero] at c0 c1 c2 c3
  go_wp2_with fail
  go_ret
  exact ⟨rfl, hbw⟩

set_option maxRecDepth 100000 in
set_option maxHeartbeats 1600000 in
theorem rsample_may (W H B x y : Int) (s : ByteArray) (w : World) (hm : mayI W H B s.size = true) (hs : (s.size : Int) ≤ 9223372036854775807) : Calls Try.prog 17 #[.agg #[.int .i64 W, .int .i64 H, .int .i64 B, .string s], .int .i64 x, .int .i64 y] w fun e w' => e = .returned (.int .i64 (sampV W H B s x y)) ∧ Below w.heap.size w w' := by
  have HM := Lib.hid (fun W' => show Calls Try.prog 15 #[.agg #[.int .i64 W, .int .i64 H, .int .i64 B, .string s]] W' fun e w' => e = .returned (.bool true) ∧ Below W'.heap.size W' w' by have := rmay37_any W H B s W' hs; rw [hm] at this; exact this)
  by_cases g0 : x < 0
  · rw [show sampV W H B s x y = -1 by unfold sampV; rw [if_neg (by unfold inB; simp; omega)]]
    clear hm
    have K := Blk.new w 23 #[.int .i64 W, .int .i64 H, .int .i64 B, .string s]
    have hbw : Below w.heap.size w (w.alloc (.cells #[.int .i64 W, .int .i64 H, .int .i64 B, .string s] 23)) := by (repeat' (first | exact Below.refl _ _ | exact Below.refl _ _ | refine balloc ?_ _ | refine Below.drew ?_ | refine below_drewN ?_ _ | refine bset ?_ (by first | omega | (simp <;> omega)) _))
    go_enter Try.func17, Try.ntmps17
    go_wp2_with fail
    refine (HM.out _).mono ?_
    rintro e_ w2 ⟨rfl, hb1⟩
    replace K := K.below hb1 (by simp)
    replace hbw := btrans hbw hb1
    clear hb1 HM
    have c0 := K.cell 0
    have c1 := K.cell 1
    have c2 := K.cell 2
    have c3 := K.cell 3
    have lK := K.lt
    simp only [List.getElem?_toArray, List.getElem?_cons_succ, List.getElem?_cons_zero] at c0 c1 c2 c3
    go_wp2_with fail
    go_ret
    exact ⟨rfl, by (repeat' (first | exact hbw | exact Below.refl _ _ | refine balloc ?_ _ | refine Below.drew ?_ | refine below_drewN ?_ _ | refine bset ?_ (by first | omega | (simp <;> omega)) _))⟩
  by_cases g1 : W ≤ x
  · rw [show sampV W H B s x y = -1 by unfold sampV; rw [if_neg (by unfold inB; simp; omega)]]
    clear hm
    have K := Blk.new w 23 #[.int .i64 W, .int .i64 H, .int .i64 B, .string s]
    have hbw : Below w.heap.size w (w.alloc (.cells #[.int .i64 W, .int .i64 H, .int .i64 B, .string s] 23)) := by (repeat' (first | exact Below.refl _ _ | exact Below.refl _ _ | refine balloc ?_ _ | refine Below.drew ?_ | refine below_drewN ?_ _ | refine bset ?_ (by first | omega | (simp <;> omega)) _))
    go_enter Try.func17, Try.ntmps17
    go_wp2_with fail
    refine (HM.out _).mono ?_
    rintro e_ w2 ⟨rfl, hb1⟩
    replace K := K.below hb1 (by simp)
    replace hbw := btrans hbw hb1
    clear hb1 HM
    have c0 := K.cell 0
    have c1 := K.cell 1
    have c2 := K.cell 2
    have c3 := K.cell 3
    have lK := K.lt
    simp only [List.getElem?_toArray, List.getElem?_cons_succ, List.getElem?_cons_zero] at c0 c1 c2 c3
    go_wp2_with fail
    go_ret
    exact ⟨rfl, by (repeat' (first | exact hbw | exact Below.refl _ _ | refine balloc ?_ _ | refine Below.drew ?_ | refine below_drewN ?_ _ | refine bset ?_ (by first | omega | (simp <;> omega)) _))⟩
  by_cases g2 : y < 0
  · rw [show sampV W H B s x y = -1 by unfold sampV; rw [if_neg (by unfold inB; simp; omega)]]
    clear hm
    have K := Blk.new w 23 #[.int .i64 W, .int .i64 H, .int .i64 B, .string s]
    have hbw : Below w.heap.size w (w.alloc (.cells #[.int .i64 W, .int .i64 H, .int .i64 B, .string s] 23)) := by (repeat' (first | exact Below.refl _ _ | exact Below.refl _ _ | refine balloc ?_ _ | refine Below.drew ?_ | refine below_drewN ?_ _ | refine bset ?_ (by first | omega | (simp <;> omega)) _))
    go_enter Try.func17, Try.ntmps17
    go_wp2_with fail
    refine (HM.out _).mono ?_
    rintro e_ w2 ⟨rfl, hb1⟩
    replace K := K.below hb1 (by simp)
    replace hbw := btrans hbw hb1
    clear hb1 HM
    have c0 := K.cell 0
    have c1 := K.cell 1
    have c2 := K.cell 2
    have c3 := K.cell 3
    have lK := K.lt
    simp only [List.getElem?_toArray, List.getElem?_cons_succ, List.getElem?_cons_zero] at c0 c1 c2 c3
    go_wp2_with fail
    go_ret
    exact ⟨rfl, by (repeat' (first | exact hbw | exact Below.refl _ _ | refine balloc ?_ _ | refine Below.drew ?_ | refine below_drewN ?_ _ | refine bset ?_ (by first | omega | (simp <;> omega)) _))⟩
  by_cases g3 : H ≤ y
  · rw [show sampV W H B s x y = -1 by unfold sampV; rw [if_neg (by unfold inB; simp; omega)]]
    clear hm
    have K := Blk.new w 23 #[.int .i64 W, .int .i64 H, .int .i64 B, .string s]
    have hbw : Below w.heap.size w (w.alloc (.cells #[.int .i64 W, .int .i64 H, .int .i64 B, .string s] 23)) := by (repeat' (first | exact Below.refl _ _ | exact Below.refl _ _ | refine balloc ?_ _ | refine Below.drew ?_ | refine below_drewN ?_ _ | refine bset ?_ (by first | omega | (simp <;> omega)) _))
    go_enter Try.func17, Try.ntmps17
    go_wp2_with fail
    refine (HM.out _).mono ?_
    rintro e_ w2 ⟨rfl, hb1⟩
    replace K := K.below hb1 (by simp)
    replace hbw := btrans hbw hb1
    clear hb1 HM
    have c0 := K.cell 0
    have c1 := K.cell 1
    have c2 := K.cell 2
    have c3 := K.cell 3
    have lK := K.lt
    simp only [List.getElem?_toArray, List.getElem?_cons_succ, List.getElem?_cons_zero] at c0 c1 c2 c3
    go_wp2_with fail
    go_ret
    exact ⟨rfl, by (repeat' (first | exact hbw | exact Below.refl _ _ | refine balloc ?_ _ | refine Below.drew ?_ | refine below_drewN ?_ _ | refine bset ?_ (by first | omega | (simp <;> omega)) _))⟩
  have hx : 0 ≤ x ∧ x < W := ⟨by omega, by omega⟩
  have hy : 0 ≤ y ∧ y < H := ⟨by omega, by omega⟩
  obtain ⟨hB, hW, hH, hn⟩ := mayI_bd hm
  obtain ⟨p1, p2, p3, p4, p5, p6, p7, p8⟩ := place_in hm hx hy
  obtain ⟨p9, p10⟩ := byte_in s (y * rowI W B + x * B / 8) (by omega) p8
  rw [show sampV W H B s x y = bitsV (byteAt s (y * rowI W B + x * B / 8)) (8 - B - x * B % 8) B by unfold sampV; rw [if_pos (by unfold inB; simp; omega)]]
  exact rsample_in W H B x y s w _ _ _ _ _ _ hW (by omega) (by omega) hx.1 hx.2 hy.1 hy.2 rfl p1.1 p1.2 rfl rfl p2.1 p2.2 p6 p3.1 p3.2 p7 p4.1 p4.2 p5 p9.1 p9.2 p10 hm hs

set_option maxRecDepth 100000 in
set_option maxHeartbeats 1600000 in
theorem Sample_any (W H B x y : Int) (s : ByteArray) (w : World) (hs : (s.size : Int) ≤ 9223372036854775807) : Calls Try.prog 16 #[.agg #[.int .i64 W, .int .i64 H, .int .i64 B, .string s], .int .i64 x, .int .i64 y] w fun e w' => e = .returned (.int .i64 (if mayI W H B s.size = true then sampV W H B s x y else -1)) ∧ Below w.heap.size w w' := by
  cases hm : mayI W H B s.size with
  | false =>
    have HM := Lib.hid (fun W' => show Calls Try.prog 14 #[.agg #[.int .i64 W, .int .i64 H, .int .i64 B, .string s]] W' fun e w' => e = .returned (.bool false) ∧ Below W'.heap.size W' w' by have := may37_any W H B s W' hs; rw [hm] at this; exact this)
    clear hm
    have K := Blk.new w 23 #[.int .i64 W, .int .i64 H, .int .i64 B, .string s]
    have hbw : Below w.heap.size w (w.alloc (.cells #[.int .i64 W, .int .i64 H, .int .i64 B, .string s] 23)) := by (repeat' (first | exact Below.refl _ _ | exact Below.refl _ _ | refine balloc ?_ _ | refine Below.drew ?_ | refine below_drewN ?_ _ | refine bset ?_ (by first | omega | (simp <;> omega)) _))
    rw [if_neg (by simp)]
    go_enter Try.func16, Try.ntmps16
    go_wp2_with fail
    refine (HM.out _).mono ?_
    rintro e_ w2 ⟨rfl, hb1⟩
    replace K := K.below hb1 (by simp)
    replace hbw := btrans hbw hb1
    clear hb1 HM
    have c0 := K.cell 0
    have c1 := K.cell 1
    have c2 := K.cell 2
    have c3 := K.cell 3
    have lK := K.lt
    simp only [List.getElem?_toArray, List.getElem?_cons_succ, List.getElem?_cons_zero] at c0 c1 c2 c3
    go_wp2_with fail
    go_ret
    exact ⟨rfl, hbw⟩
  | true =>
    have HM := Lib.hid (fun W' => show Calls Try.prog 14 #[.agg #[.int .i64 W, .int .i64 H, .int .i64 B, .string s]] W' fun e w' => e = .returned (.bool true) ∧ Below W'.heap.size W' w' by have := may37_any W H B s W' hs; rw [hm] at this; exact this)
    have HI := Lib.hid (fun W' => sample_may W H B x y s W' hm)
    clear hm
    have K := Blk.new w 23 #[.int .i64 W, .int .i64 H, .int .i64 B, .string s]
    have hbw : Below w.heap.size w (w.alloc (.cells #[.int .i64 W, .int .i64 H, .int .i64 B, .string s] 23)) := by (repeat' (first | exact Below.refl _ _ | exact Below.refl _ _ | refine balloc ?_ _ | refine Below.drew ?_ | refine below_drewN ?_ _ | refine bset ?_ (by first | omega | (simp <;> omega)) _))
    rw [if_pos rfl]
    go_enter Try.func16, Try.ntmps16
    go_wp2_with fail
    refine (HM.out _).mono ?_
    rintro e_ w2 ⟨rfl, hb1⟩
    replace K := K.below hb1 (by simp)
    replace hbw := btrans hbw hb1
    clear hb1 HM
    have c0 := K.cell 0
    have c1 := K.cell 1
    have c2 := K.cell 2
    have c3 := K.cell 3
    have lK := K.lt
    simp only [List.getElem?_toArray, List.getElem?_cons_succ, List.getElem?_cons_zero] at c0 c1 c2 c3
    go_wp2_with fail
    refine (HI.out _).mono ?_
    rintro e_ w3 ⟨rfl, hb1⟩
    replace hbw := btrans hbw hb1
    clear hb1 HI
    go_wp2_with fail
    go_ret
    exact ⟨rfl, hbw⟩

set_option maxRecDepth 100000 in
set_option maxHeartbeats 1600000 in
theorem rSample_any (W H B x y : Int) (s : ByteArray) (w : World) (hs : (s.size : Int) ≤ 9223372036854775807) : Calls Try.prog 17 #[.agg #[.int .i64 W, .int .i64 H, .int .i64 B, .string s], .int .i64 x, .int .i64 y] w fun e w' => e = .returned (.int .i64 (if mayI W H B s.size = true then sampV W H B s x y else -1)) ∧ Below w.heap.size w w' := by
  cases hm : mayI W H B s.size with
  | false =>
    have HM := Lib.hid (fun W' => show Calls Try.prog 15 #[.agg #[.int .i64 W, .int .i64 H, .int .i64 B, .string s]] W' fun e w' => e = .returned (.bool false) ∧ Below W'.heap.size W' w' by have := rmay37_any W H B s W' hs; rw [hm] at this; exact this)
    clear hm
    have K := Blk.new w 23 #[.int .i64 W, .int .i64 H, .int .i64 B, .string s]
    have hbw : Below w.heap.size w (w.alloc (.cells #[.int .i64 W, .int .i64 H, .int .i64 B, .string s] 23)) := by (repeat' (first | exact Below.refl _ _ | exact Below.refl _ _ | refine balloc ?_ _ | refine Below.drew ?_ | refine below_drewN ?_ _ | refine bset ?_ (by first | omega | (simp <;> omega)) _))
    rw [if_neg (by simp)]
    go_enter Try.func17, Try.ntmps17
    go_wp2_with fail
    refine (HM.out _).mono ?_
    rintro e_ w2 ⟨rfl, hb1⟩
    replace K := K.below hb1 (by simp)
    replace hbw := btrans hbw hb1
    clear hb1 HM
    have c0 := K.cell 0
    have c1 := K.cell 1
    have c2 := K.cell 2
    have c3 := K.cell 3
    have lK := K.lt
    simp only [List.getElem?_toArray, List.getElem?_cons_succ, List.getElem?_cons_zero] at c0 c1 c2 c3
    go_wp2_with fail
    go_ret
    exact ⟨rfl, hbw⟩
  | true =>
    have HM := Lib.hid (fun W' => show Calls Try.prog 15 #[.agg #[.int .i64 W, .int .i64 H, .int .i64 B, .string s]] W' fun e w' => e = .returned (.bool true) ∧ Below W'.heap.size W' w' by have := rmay37_any W H B s W' hs; rw [hm] at this; exact this)
    rw [if_pos rfl]
    exact rsample_may W H B x y s w hm hs

end Go.Proofs.Ytegpjjkbbdfggaa.im

/-
  Layer 37: the sample that lies over a point, and the reference's.
-/
namespace Go.Proofs.Ytegpjjkbbdfggaa.im
set_option linter.unusedVariables false
set_option linter.unusedSimpArgs false
open Go.RowKit bs mt

theorem prod_bd {a b m n : Int} (ha : -m ≤ a ∧ a ≤ m) (hb : -n ≤ b ∧ b ≤ n) : -(m * n) ≤ a * b ∧ a * b ≤ m * n := by
  have h1 := Int.mul_nonneg (show 0 ≤ m - a by omega) (show 0 ≤ n - b by omega)
  have h2 := Int.mul_nonneg (show 0 ≤ m + a by omega) (show 0 ≤ n + b by omega)
  have h3 := Int.mul_nonneg (show 0 ≤ m - a by omega) (show 0 ≤ n + b by omega)
  have h4 := Int.mul_nonneg (show 0 ≤ m + a by omega) (show 0 ≤ n - b by omega)
  simp only [Int.sub_mul, Int.mul_sub, Int.add_mul, Int.mul_add] at h1 h2 h3 h4
  have c1 := Int.mul_comm m b
  have c2 := Int.mul_comm n a
  have c3 := Int.mul_comm m n
  omega
theorem blk_cast {w : World} {g : Nat} {t : TypeId} {cs cs' : Array Value} (h : Blk w g t cs) (e : cs = cs') : Blk w g t cs' := e ▸ h
def coordB (x y : Int) : Bool := decide (-8191 ≤ x) && decide (x ≤ 8191) && decide (-8191 ≤ y) && decide (y ≤ 8191)
/-- the sample over a point, by an image and a matrix that may be -/
def atV (W H B : Int) (s : ByteArray) (a b c d e f x y : Int) : Int :=
  if a * d - b * c = 0 ∨ coordB x y = false then -1 else
    sampV W H B s (downI (d * (x * 65536 - e) - c * (y * 65536 - f)) (a * d - b * c)) (downI (a * (y * 65536 - f) - b * (x * 65536 - e)) (a * d - b * c))
/-- the sample over a point -/
def AtV (W H B : Int) (s : ByteArray) (a b c d e f x y : Int) : Int :=
  if (mayI W H B s.size && mayB a b c d e f) = true then atV W H B s a b c d e f x y else -1

set_option maxRecDepth 100000 in
set_option maxHeartbeats 1600000 in
theorem look_yes (W H B a b c d e f : Int) (s : ByteArray) (p1 p2 t : Int) (w : World) (hs : (s.size : Int) ≤ 9223372036854775807) (h1 : mayI W H B s.size = true) (h2 : mayB a b c d e f = true) (q1 : a * d = p1) (q2 : b * c = p2) (q3 : p1 - p2 = t) (m10 : -1152921502459363329 ≤ p1) (m11 : p1 ≤ 1152921502459363329) (m20 : -1152921502459363329 ≤ p2) (m21 : p2 ≤ 1152921502459363329) : Calls Try.prog 58 #[.agg #[.int .i64 W, .int .i64 H, .int .i64 B, .string s], .agg #[.int .i64 a, .int .i64 b, .int .i64 c, .int .i64 d, .int .i64 e, .int .i64 f]] w fun ed w' => ed = .returned (.tuple #[.agg #[.int .i64 W, .int .i64 H, .int .i64 B, .string s, .int .i64 a, .int .i64 b, .int .i64 c, .int .i64 d, .int .i64 e, .int .i64 f, .int .i64 t], .bool true]) ∧ Below w.heap.size w w' := by
  have HM := Lib.hid (fun W' => show Calls Try.prog 14 #[.agg #[.int .i64 W, .int .i64 H, .int .i64 B, .string s]] W' fun ed w' => ed = .returned (.bool true) ∧ Below W'.heap.size W' w' by have := may37_any W H B s W' hs; rw [h1] at this; exact this)
  have HN := Lib.hid (fun W' => show Calls Try.prog 66 #[.agg #[.int .i64 a, .int .i64 b, .int .i64 c, .int .i64 d, .int .i64 e, .int .i64 f]] W' fun ed w' => ed = .returned (.bool true) ∧ Below W'.heap.size W' w' by have := may_any a b c d e f W'; rw [h2] at this; exact this)
  clear h1 h2 hs
  go_enter Try.func58, Try.ntmps58
  go_wp2_with fail
  refine (HM.out _).mono ?_
  rintro e_ w1 ⟨rfl, hb1⟩
  have Ki := (((Blk.new w 23 #[.int .i64 W, .int .i64 H, .int .i64 B, .string s]).alloc (.cells #[.int .i64 a, .int .i64 b, .int .i64 c, .int .i64 d, .int .i64 e, .int .i64 f] 25)).alloc (.cells #[.int .i64 0, .int .i64 0, .int .i64 0, .string ⟨#[]⟩, .int .i64 0, .int .i64 0, .int .i64 0, .int .i64 0, .int .i64 0, .int .i64 0, .int .i64 0] 92))
  have Km := ((Blk.new (w.alloc (.cells #[.int .i64 W, .int .i64 H, .int .i64 B, .string s] 23)) 25 #[.int .i64 a, .int .i64 b, .int .i64 c, .int .i64 d, .int .i64 e, .int .i64 f]).alloc (.cells #[.int .i64 0, .int .i64 0, .int .i64 0, .string ⟨#[]⟩, .int .i64 0, .int .i64 0, .int .i64 0, .int .i64 0, .int .i64 0, .int .i64 0, .int .i64 0] 92))
  have hz_Km : (w.alloc (.cells #[.int .i64 W, .int .i64 H, .int .i64 B, .string s] 23)).heap.size = w.heap.size + 1 := by simp
  rw [hz_Km] at Km
  clear hz_Km
  have Kv := (Blk.new ((w.alloc (.cells #[.int .i64 W, .int .i64 H, .int .i64 B, .string s] 23)).alloc (.cells #[.int .i64 a, .int .i64 b, .int .i64 c, .int .i64 d, .int .i64 e, .int .i64 f] 25)) 92 #[.int .i64 0, .int .i64 0, .int .i64 0, .string ⟨#[]⟩, .int .i64 0, .int .i64 0, .int .i64 0, .int .i64 0, .int .i64 0, .int .i64 0, .int .i64 0])
  have hz_Kv : ((w.alloc (.cells #[.int .i64 W, .int .i64 H, .int .i64 B, .string s] 23)).alloc (.cells #[.int .i64 a, .int .i64 b, .int .i64 c, .int .i64 d, .int .i64 e, .int .i64 f] 25)).heap.size = w.heap.size + 1 + 1 := by simp
  rw [hz_Kv] at Kv
  clear hz_Kv
  replace Ki := Ki.below hb1 Ki.lt
  replace Km := Km.below hb1 Km.lt
  replace Kv := Kv.below hb1 Kv.lt
  have hbw : Below w.heap.size w w1 := btrans (by (repeat' (first | exact Below.refl _ _ | exact Below.refl _ _ | refine balloc ?_ _ | refine Below.drew ?_ | refine below_drewN ?_ _ | refine bset ?_ (by first | omega | (simp <;> omega)) _))) hb1
  clear hb1 
  have lKi := Ki.lt
  have cKi0 := Ki.cell 0
  have cKi1 := Ki.cell 1
  have cKi2 := Ki.cell 2
  have cKi3 := Ki.cell 3
  have lKm := Km.lt
  have cKm0 := Km.cell 0
  have cKm1 := Km.cell 1
  have cKm2 := Km.cell 2
  have cKm3 := Km.cell 3
  have cKm4 := Km.cell 4
  have cKm5 := Km.cell 5
  have lKv := Kv.lt
  have cKv0 := Kv.cell 0
  have cKv1 := Kv.cell 1
  have cKv2 := Kv.cell 2
  have cKv3 := Kv.cell 3
  have cKv4 := Kv.cell 4
  have cKv5 := Kv.cell 5
  have cKv6 := Kv.cell 6
  have cKv7 := Kv.cell 7
  have cKv8 := Kv.cell 8
  have cKv9 := Kv.cell 9
  have cKv10 := Kv.cell 10
  simp only [List.getElem?_toArray, List.getElem?_cons_succ, List.getElem?_cons_zero] at cKi0 cKi1 cKi2 cKi3 cKm0 cKm1 cKm2 cKm3 cKm4 cKm5 cKv0 cKv1 cKv2 cKv3 cKv4 cKv5 cKv6 cKv7 cKv8 cKv9 cKv10
  go_wp2_with fail
  refine (HN.out _).mono ?_
  rintro e_ w2 ⟨rfl, hb2⟩
  replace Ki := Ki.below hb2 Ki.lt
  replace Km := Km.below hb2 Km.lt
  replace Kv := Kv.below hb2 Kv.lt
  replace hbw : Below w.heap.size w w2 := btrans (by (repeat' (first | refine bset ?_ (by first | omega | (simp <;> omega)) _ | refine balloc ?_ _ | refine Below.drew ?_ | refine below_drewN ?_ _ | exact hbw | exact Below.refl _ _))) hb2
  clear hb2 lKi cKi0 cKi1 cKi2 cKi3 lKm cKm0 cKm1 cKm2 cKm3 cKm4 cKm5 lKv cKv0 cKv1 cKv2 cKv3 cKv4 cKv5 cKv6 cKv7 cKv8 cKv9 cKv10
  have lKi := Ki.lt
  have cKi0 := Ki.cell 0
  have cKi1 := Ki.cell 1
  have cKi2 := Ki.cell 2
  have cKi3 := Ki.cell 3
  have lKm := Km.lt
  have cKm0 := Km.cell 0
  have cKm1 := Km.cell 1
  have cKm2 := Km.cell 2
  have cKm3 := Km.cell 3
  have cKm4 := Km.cell 4
  have cKm5 := Km.cell 5
  have lKv := Kv.lt
  have cKv0 := Kv.cell 0
  have cKv1 := Kv.cell 1
  have cKv2 := Kv.cell 2
  have cKv3 := Kv.cell 3
  have cKv4 := Kv.cell 4
  have cKv5 := Kv.cell 5
  have cKv6 := Kv.cell 6
  have cKv7 := Kv.cell 7
  have cKv8 := Kv.cell 8
  have cKv9 := Kv.cell 9
  have cKv10 := Kv.cell 10
  have fKv0 := Kv.frozen 0
  have fKv1 := Kv.frozen 1
  have fKv2 := Kv.frozen 2
  have fKv3 := Kv.frozen 3
  have fKv4 := Kv.frozen 4
  have fKv5 := Kv.frozen 5
  have fKv6 := Kv.frozen 6
  have fKv7 := Kv.frozen 7
  have fKv8 := Kv.frozen 8
  have fKv9 := Kv.frozen 9
  have fKv10 := Kv.frozen 10
  simp only [List.getElem?_toArray, List.getElem?_cons_succ, List.getElem?_cons_zero] at cKi0 cKi1 cKi2 cKi3 cKm0 cKm1 cKm2 cKm3 cKm4 cKm5 cKv0 cKv1 cKv2 cKv3 cKv4 cKv5 cKv6 cKv7 cKv8 cKv9 cKv10
  have HKv := Lib.hid Kv
  have HBW := Lib.hid hbw
  clear hbw Kv
  go_wp2_with fail
  refine ret_struct2 (g := w.heap.size + 1 + 1) (t := 92) (cs := #[.int .i64 W, .int .i64 H, .int .i64 B, .string s, .int .i64 a, .int .i64 b, .int .i64 c, .int .i64 d, .int .i64 e, .int .i64 f, .int .i64 t]) rfl rfl ?_ Try.underlying92 rfl rfl rfl ?_
  · exact blk_cast ((((((((((((HKv.out.set_ 0 (.int .i64 W)).set_ 1 (.int .i64 H)).set_ 2 (.int .i64 B)).set_ 3 (.string s)).set_ 4 (.int .i64 a)).set_ 5 (.int .i64 b)).set_ 6 (.int .i64 c)).set_ 7 (.int .i64 d)).set_ 8 (.int .i64 e)).set_ 9 (.int .i64 f)).set_ 10 (.int .i64 t))) (by kernel_rfl)
  · exact ⟨rfl, by (repeat' (first | refine bset ?_ (by first | omega | (simp <;> omega)) _ | refine balloc ?_ _ | refine Below.drew ?_ | refine below_drewN ?_ _ | exact HBW.out | exact Below.refl _ _))⟩

set_option maxRecDepth 100000 in
set_option maxHeartbeats 1600000 in
theorem look_no1 (W H B a b c d e f : Int) (s : ByteArray) (w : World) (hs : (s.size : Int) ≤ 9223372036854775807) (h1 : mayI W H B s.size = false) : Calls Try.prog 58 #[.agg #[.int .i64 W, .int .i64 H, .int .i64 B, .string s], .agg #[.int .i64 a, .int .i64 b, .int .i64 c, .int .i64 d, .int .i64 e, .int .i64 f]] w fun ed w' => ed = .returned (.tuple #[.agg #[.int .i64 0, .int .i64 0, .int .i64 0, .string ⟨#[]⟩, .int .i64 0, .int .i64 0, .int .i64 0, .int .i64 0, .int .i64 0, .int .i64 0, .int .i64 0], .bool false]) ∧ Below w.heap.size w w' := by
  have HM := Lib.hid (fun W' => show Calls Try.prog 14 #[.agg #[.int .i64 W, .int .i64 H, .int .i64 B, .string s]] W' fun ed w' => ed = .returned (.bool false) ∧ Below W'.heap.size W' w' by have := may37_any W H B s W' hs; rw [h1] at this; exact this)
  clear h1 hs
  go_enter Try.func58, Try.ntmps58
  go_wp2_with fail
  refine (HM.out _).mono ?_
  rintro e_ w1 ⟨rfl, hb1⟩
  have Ki := (((Blk.new w 23 #[.int .i64 W, .int .i64 H, .int .i64 B, .string s]).alloc (.cells #[.int .i64 a, .int .i64 b, .int .i64 c, .int .i64 d, .int .i64 e, .int .i64 f] 25)).alloc (.cells #[.int .i64 0, .int .i64 0, .int .i64 0, .string ⟨#[]⟩, .int .i64 0, .int .i64 0, .int .i64 0, .int .i64 0, .int .i64 0, .int .i64 0, .int .i64 0] 92))
  have Km := ((Blk.new (w.alloc (.cells #[.int .i64 W, .int .i64 H, .int .i64 B, .string s] 23)) 25 #[.int .i64 a, .int .i64 b, .int .i64 c, .int .i64 d, .int .i64 e, .int .i64 f]).alloc (.cells #[.int .i64 0, .int .i64 0, .int .i64 0, .string ⟨#[]⟩, .int .i64 0, .int .i64 0, .int .i64 0, .int .i64 0, .int .i64 0, .int .i64 0, .int .i64 0] 92))
  have hz_Km : (w.alloc (.cells #[.int .i64 W, .int .i64 H, .int .i64 B, .string s] 23)).heap.size = w.heap.size + 1 := by simp
  rw [hz_Km] at Km
  clear hz_Km
  have Kv := (Blk.new ((w.alloc (.cells #[.int .i64 W, .int .i64 H, .int .i64 B, .string s] 23)).alloc (.cells #[.int .i64 a, .int .i64 b, .int .i64 c, .int .i64 d, .int .i64 e, .int .i64 f] 25)) 92 #[.int .i64 0, .int .i64 0, .int .i64 0, .string ⟨#[]⟩, .int .i64 0, .int .i64 0, .int .i64 0, .int .i64 0, .int .i64 0, .int .i64 0, .int .i64 0])
  have hz_Kv : ((w.alloc (.cells #[.int .i64 W, .int .i64 H, .int .i64 B, .string s] 23)).alloc (.cells #[.int .i64 a, .int .i64 b, .int .i64 c, .int .i64 d, .int .i64 e, .int .i64 f] 25)).heap.size = w.heap.size + 1 + 1 := by simp
  rw [hz_Kv] at Kv
  clear hz_Kv
  replace Ki := Ki.below hb1 Ki.lt
  replace Km := Km.below hb1 Km.lt
  replace Kv := Kv.below hb1 Kv.lt
  have hbw : Below w.heap.size w w1 := btrans (by (repeat' (first | exact Below.refl _ _ | exact Below.refl _ _ | refine balloc ?_ _ | refine Below.drew ?_ | refine below_drewN ?_ _ | refine bset ?_ (by first | omega | (simp <;> omega)) _))) hb1
  clear hb1 
  have lKi := Ki.lt
  have cKi0 := Ki.cell 0
  have cKi1 := Ki.cell 1
  have cKi2 := Ki.cell 2
  have cKi3 := Ki.cell 3
  have lKm := Km.lt
  have cKm0 := Km.cell 0
  have cKm1 := Km.cell 1
  have cKm2 := Km.cell 2
  have cKm3 := Km.cell 3
  have cKm4 := Km.cell 4
  have cKm5 := Km.cell 5
  have lKv := Kv.lt
  have cKv0 := Kv.cell 0
  have cKv1 := Kv.cell 1
  have cKv2 := Kv.cell 2
  have cKv3 := Kv.cell 3
  have cKv4 := Kv.cell 4
  have cKv5 := Kv.cell 5
  have cKv6 := Kv.cell 6
  have cKv7 := Kv.cell 7
  have cKv8 := Kv.cell 8
  have cKv9 := Kv.cell 9
  have cKv10 := Kv.cell 10
  have fKv0 := Kv.frozen 0
  have fKv1 := Kv.frozen 1
  have fKv2 := Kv.frozen 2
  have fKv3 := Kv.frozen 3
  have fKv4 := Kv.frozen 4
  have fKv5 := Kv.frozen 5
  have fKv6 := Kv.frozen 6
  have fKv7 := Kv.frozen 7
  have fKv8 := Kv.frozen 8
  have fKv9 := Kv.frozen 9
  have fKv10 := Kv.frozen 10
  simp only [List.getElem?_toArray, List.getElem?_cons_succ, List.getElem?_cons_zero] at cKi0 cKi1 cKi2 cKi3 cKm0 cKm1 cKm2 cKm3 cKm4 cKm5 cKv0 cKv1 cKv2 cKv3 cKv4 cKv5 cKv6 cKv7 cKv8 cKv9 cKv10
  have HKv := Lib.hid Kv
  have HBW := Lib.hid hbw
  clear hbw Kv
  go_wp2_with fail
  refine ret_struct2 (g := w.heap.size + 1 + 1) (t := 92) (cs := #[.int .i64 0, .int .i64 0, .int .i64 0, .string ⟨#[]⟩, .int .i64 0, .int .i64 0, .int .i64 0, .int .i64 0, .int .i64 0, .int .i64 0, .int .i64 0]) rfl rfl ?_ Try.underlying92 rfl rfl rfl ?_
  · exact blk_cast ((((((((((((HKv.out.set_ 0 (.int .i64 0)).set_ 1 (.int .i64 0)).set_ 2 (.int .i64 0)).set_ 3 (.string ⟨#[]⟩)).set_ 4 (.int .i64 0)).set_ 5 (.int .i64 0)).set_ 6 (.int .i64 0)).set_ 7 (.int .i64 0)).set_ 8 (.int .i64 0)).set_ 9 (.int .i64 0)).set_ 10 (.int .i64 0))) (by kernel_rfl)
  · exact ⟨rfl, by (repeat' (first | refine bset ?_ (by first | omega | (simp <;> omega)) _ | refine balloc ?_ _ | refine Below.drew ?_ | refine below_drewN ?_ _ | exact HBW.out | exact Below.refl _ _))⟩

set_option maxRecDepth 100000 in
set_option maxHeartbeats 1600000 in
theorem look_no2 (W H B a b c d e f : Int) (s : ByteArray) (w : World) (hs : (s.size : Int) ≤ 9223372036854775807) (h1 : mayI W H B s.size = true) (h2 : mayB a b c d e f = false) : Calls Try.prog 58 #[.agg #[.int .i64 W, .int .i64 H, .int .i64 B, .string s], .agg #[.int .i64 a, .int .i64 b, .int .i64 c, .int .i64 d, .int .i64 e, .int .i64 f]] w fun ed w' => ed = .returned (.tuple #[.agg #[.int .i64 0, .int .i64 0, .int .i64 0, .string ⟨#[]⟩, .int .i64 0, .int .i64 0, .int .i64 0, .int .i64 0, .int .i64 0, .int .i64 0, .int .i64 0], .bool false]) ∧ Below w.heap.size w w' := by
  have HM := Lib.hid (fun W' => show Calls Try.prog 14 #[.agg #[.int .i64 W, .int .i64 H, .int .i64 B, .string s]] W' fun ed w' => ed = .returned (.bool true) ∧ Below W'.heap.size W' w' by have := may37_any W H B s W' hs; rw [h1] at this; exact this)
  have HN := Lib.hid (fun W' => show Calls Try.prog 66 #[.agg #[.int .i64 a, .int .i64 b, .int .i64 c, .int .i64 d, .int .i64 e, .int .i64 f]] W' fun ed w' => ed = .returned (.bool false) ∧ Below W'.heap.size W' w' by have := may_any a b c d e f W'; rw [h2] at this; exact this)
  clear h1 h2 hs
  go_enter Try.func58, Try.ntmps58
  go_wp2_with fail
  refine (HM.out _).mono ?_
  rintro e_ w1 ⟨rfl, hb1⟩
  have Ki := (((Blk.new w 23 #[.int .i64 W, .int .i64 H, .int .i64 B, .string s]).alloc (.cells #[.int .i64 a, .int .i64 b, .int .i64 c, .int .i64 d, .int .i64 e, .int .i64 f] 25)).alloc (.cells #[.int .i64 0, .int .i64 0, .int .i64 0, .string ⟨#[]⟩, .int .i64 0, .int .i64 0, .int .i64 0, .int .i64 0, .int .i64 0, .int .i64 0, .int .i64 0] 92))
  have Km := ((Blk.new (w.alloc (.cells #[.int .i64 W, .int .i64 H, .int .i64 B, .string s] 23)) 25 #[.int .i64 a, .int .i64 b, .int .i64 c, .int .i64 d, .int .i64 e, .int .i64 f]).alloc (.cells #[.int .i64 0, .int .i64 0, .int .i64 0, .string ⟨#[]⟩, .int .i64 0, .int .i64 0, .int .i64 0, .int .i64 0, .int .i64 0, .int .i64 0, .int .i64 0] 92))
  have hz_Km : (w.alloc (.cells #[.int .i64 W, .int .i64 H, .int .i64 B, .string s] 23)).heap.size = w.heap.size + 1 := by simp
  rw [hz_Km] at Km
  clear hz_Km
  have Kv := (Blk.new ((w.alloc (.cells #[.int .i64 W, .int .i64 H, .int .i64 B, .string s] 23)).alloc (.cells #[.int .i64 a, .int .i64 b, .int .i64 c, .int .i64 d, .int .i64 e, .int .i64 f] 25)) 92 #[.int .i64 0, .int .i64 0, .int .i64 0, .string ⟨#[]⟩, .int .i64 0, .int .i64 0, .int .i64 0, .int .i64 0, .int .i64 0, .int .i64 0, .int .i64 0])
  have hz_Kv : ((w.alloc (.cells #[.int .i64 W, .int .i64 H, .int .i64 B, .string s] 23)).alloc (.cells #[.int .i64 a, .int .i64 b, .int .i64 c, .int .i64 d, .int .i64 e, .int .i64 f] 25)).heap.size = w.heap.size + 1 + 1 := by simp
  rw [hz_Kv] at Kv
  clear hz_Kv
  replace Ki := Ki.below hb1 Ki.lt
  replace Km := Km.below hb1 Km.lt
  replace Kv := Kv.below hb1 Kv.lt
  have hbw : Below w.heap.size w w1 := btrans (by (repeat' (first | exact Below.refl _ _ | exact Below.refl _ _ | refine balloc ?_ _ | refine Below.drew ?_ | refine below_drewN ?_ _ | refine bset ?_ (by first | omega | (simp <;> omega)) _))) hb1
  clear hb1 
  have lKi := Ki.lt
  have cKi0 := Ki.cell 0
  have cKi1 := Ki.cell 1
  have cKi2 := Ki.cell 2
  have cKi3 := Ki.cell 3
  have lKm := Km.lt
  have cKm0 := Km.cell 0
  have cKm1 := Km.cell 1
  have cKm2 := Km.cell 2
  have cKm3 := Km.cell 3
  have cKm4 := Km.cell 4
  have cKm5 := Km.cell 5
  have lKv := Kv.lt
  have cKv0 := Kv.cell 0
  have cKv1 := Kv.cell 1
  have cKv2 := Kv.cell 2
  have cKv3 := Kv.cell 3
  have cKv4 := Kv.cell 4
  have cKv5 := Kv.cell 5
  have cKv6 := Kv.cell 6
  have cKv7 := Kv.cell 7
  have cKv8 := Kv.cell 8
  have cKv9 := Kv.cell 9
  have cKv10 := Kv.cell 10
  simp only [List.getElem?_toArray, List.getElem?_cons_succ, List.getElem?_cons_zero] at cKi0 cKi1 cKi2 cKi3 cKm0 cKm1 cKm2 cKm3 cKm4 cKm5 cKv0 cKv1 cKv2 cKv3 cKv4 cKv5 cKv6 cKv7 cKv8 cKv9 cKv10
  go_wp2_with fail
  refine (HN.out _).mono ?_
  rintro e_ w2 ⟨rfl, hb2⟩
  replace Ki := Ki.below hb2 Ki.lt
  replace Km := Km.below hb2 Km.lt
  replace Kv := Kv.below hb2 Kv.lt
  replace hbw : Below w.heap.size w w2 := btrans (by (repeat' (first | refine bset ?_ (by first | omega | (simp <;> omega)) _ | refine balloc ?_ _ | refine Below.drew ?_ | refine below_drewN ?_ _ | exact hbw | exact Below.refl _ _))) hb2
  clear hb2 lKi cKi0 cKi1 cKi2 cKi3 lKm cKm0 cKm1 cKm2 cKm3 cKm4 cKm5 lKv cKv0 cKv1 cKv2 cKv3 cKv4 cKv5 cKv6 cKv7 cKv8 cKv9 cKv10
  have lKi := Ki.lt
  have cKi0 := Ki.cell 0
  have cKi1 := Ki.cell 1
  have cKi2 := Ki.cell 2
  have cKi3 := Ki.cell 3
  have lKm := Km.lt
  have cKm0 := Km.cell 0
  have cKm1 := Km.cell 1
  have cKm2 := Km.cell 2
  have cKm3 := Km.cell 3
  have cKm4 := Km.cell 4
  have cKm5 := Km.cell 5
  have lKv := Kv.lt
  have cKv0 := Kv.cell 0
  have cKv1 := Kv.cell 1
  have cKv2 := Kv.cell 2
  have cKv3 := Kv.cell 3
  have cKv4 := Kv.cell 4
  have cKv5 := Kv.cell 5
  have cKv6 := Kv.cell 6
  have cKv7 := Kv.cell 7
  have cKv8 := Kv.cell 8
  have cKv9 := Kv.cell 9
  have cKv10 := Kv.cell 10
  have fKv0 := Kv.frozen 0
  have fKv1 := Kv.frozen 1
  have fKv2 := Kv.frozen 2
  have fKv3 := Kv.frozen 3
  have fKv4 := Kv.frozen 4
  have fKv5 := Kv.frozen 5
  have fKv6 := Kv.frozen 6
  have fKv7 := Kv.frozen 7
  have fKv8 := Kv.frozen 8
  have fKv9 := Kv.frozen 9
  have fKv10 := Kv.frozen 10
  simp only [List.getElem?_toArray, List.getElem?_cons_succ, List.getElem?_cons_zero] at cKi0 cKi1 cKi2 cKi3 cKm0 cKm1 cKm2 cKm3 cKm4 cKm5 cKv0 cKv1 cKv2 cKv3 cKv4 cKv5 cKv6 cKv7 cKv8 cKv9 cKv10
  have HKv := Lib.hid Kv
  have HBW := Lib.hid hbw
  clear hbw Kv
  go_wp2_with fail
  refine ret_struct2 (g := w.heap.size + 1 + 1) (t := 92) (cs := #[.int .i64 0, .int .i64 0, .int .i64 0, .string ⟨#[]⟩, .int .i64 0, .int .i64 0, .int .i64 0, .int .i64 0, .int .i64 0, .int .i64 0, .int .i64 0]) rfl rfl ?_ Try.underlying92 rfl rfl rfl ?_
  · exact blk_cast ((((((((((((HKv.out.set_ 0 (.int .i64 0)).set_ 1 (.int .i64 0)).set_ 2 (.int .i64 0)).set_ 3 (.string ⟨#[]⟩)).set_ 4 (.int .i64 0)).set_ 5 (.int .i64 0)).set_ 6 (.int .i64 0)).set_ 7 (.int .i64 0)).set_ 8 (.int .i64 0)).set_ 9 (.int .i64 0)).set_ 10 (.int .i64 0))) (by kernel_rfl)
  · exact ⟨rfl, by (repeat' (first | refine bset ?_ (by first | omega | (simp <;> omega)) _ | refine balloc ?_ _ | refine Below.drew ?_ | refine below_drewN ?_ _ | exact HBW.out | exact Below.refl _ _))⟩

set_option maxRecDepth 100000 in
set_option maxHeartbeats 1600000 in
theorem at_none (W H B a b c d e f t x y : Int) (s : ByteArray) (w : World) (h : t = 0 ∨ coordB x y = false) : Calls Try.prog 59 #[.agg #[.int .i64 W, .int .i64 H, .int .i64 B, .string s, .int .i64 a, .int .i64 b, .int .i64 c, .int .i64 d, .int .i64 e, .int .i64 f, .int .i64 t], .int .i64 x, .int .i64 y] w fun ed w' => ed = .returned (.int .i64 (-1)) ∧ Below w.heap.size w w' := by
  by_cases g0 : t = 0
  · clear h
    go_enter Try.func59, Try.ntmps59
    go_wp2_with fail
    go_ret
    exact ⟨rfl, by (repeat' (first | exact Below.refl _ _ | exact Below.refl _ _ | refine balloc ?_ _ | refine Below.drew ?_ | refine below_drewN ?_ _ | refine bset ?_ (by first | omega | (simp <;> omega)) _))⟩
  by_cases g1 : x < -8191
  · clear h
    go_enter Try.func59, Try.ntmps59
    go_wp2_with fail
    go_ret
    exact ⟨rfl, by (repeat' (first | exact Below.refl _ _ | exact Below.refl _ _ | refine balloc ?_ _ | refine Below.drew ?_ | refine below_drewN ?_ _ | refine bset ?_ (by first | omega | (simp <;> omega)) _))⟩
  by_cases g2 : 8191 < x
  · clear h
    go_enter Try.func59, Try.ntmps59
    go_wp2_with fail
    go_ret
    exact ⟨rfl, by (repeat' (first | exact Below.refl _ _ | exact Below.refl _ _ | refine balloc ?_ _ | refine Below.drew ?_ | refine below_drewN ?_ _ | refine bset ?_ (by first | omega | (simp <;> omega)) _))⟩
  by_cases g3 : y < -8191
  · clear h
    go_enter Try.func59, Try.ntmps59
    go_wp2_with fail
    go_ret
    exact ⟨rfl, by (repeat' (first | exact Below.refl _ _ | exact Below.refl _ _ | refine balloc ?_ _ | refine Below.drew ?_ | refine below_drewN ?_ _ | refine bset ?_ (by first | omega | (simp <;> omega)) _))⟩
  by_cases g4 : 8191 < y
  · clear h
    go_enter Try.func59, Try.ntmps59
    go_wp2_with fail
    go_ret
    exact ⟨rfl, by (repeat' (first | exact Below.refl _ _ | exact Below.refl _ _ | refine balloc ?_ _ | refine Below.drew ?_ | refine below_drewN ?_ _ | refine bset ?_ (by first | omega | (simp <;> omega)) _))⟩
  exfalso
  rcases h with h | h
  · exact g0 h
  · unfold coordB at h
    simp at h
    omega

set_option maxRecDepth 100000 in
set_option maxHeartbeats 1600000 in
theorem at_some (W H B a b c d e f t x y p q p1 p2 p3 p4 u v z : Int) (s : ByteArray) (w : World) (h0 : ¬ t = 0) (x0 : -8191 ≤ x) (x1 : x ≤ 8191) (y0 : -8191 ≤ y) (y1 : y ≤ 8191) (e0 : -1073741823 ≤ e) (e1 : e ≤ 1073741823) (f0 : -1073741823 ≤ f) (f1 : f ≤ 1073741823)
    (hp : x * 65536 - e = p) (hq : y * 65536 - f = q) (h1 : d * p = p1) (h2 : c * q = p2) (h3 : a * q = p3) (h4 : b * p = p4) (b10 : -1729311893777219919 ≤ p1) (b11 : p1 ≤ 1729311893777219919) (b20 : -1729311893777219919 ≤ p2) (b21 : p2 ≤ 1729311893777219919) (b30 : -1729311893777219919 ≤ p3) (b31 : p3 ≤ 1729311893777219919) (b40 : -1729311893777219919 ≤ p4) (b41 : p4 ≤ 1729311893777219919)
    (HD1 : Hid (∀ W', Calls Try.prog 102 #[.int .i64 (p1 - p2), .int .i64 t] W' fun ed w' => ed = .returned (.int .i64 u) ∧ W' = w'))
    (HD2 : Hid (∀ W', Calls Try.prog 102 #[.int .i64 (p3 - p4), .int .i64 t] W' fun ed w' => ed = .returned (.int .i64 v) ∧ W' = w'))
    (HS : Hid (∀ W', Calls Try.prog 57 #[.agg #[.int .i64 W, .int .i64 H, .int .i64 B, .string s], .int .i64 u, .int .i64 v] W' fun ed w' => ed = .returned (.int .i64 z) ∧ Below W'.heap.size W' w')) : Calls Try.prog 59 #[.agg #[.int .i64 W, .int .i64 H, .int .i64 B, .string s, .int .i64 a, .int .i64 b, .int .i64 c, .int .i64 d, .int .i64 e, .int .i64 f, .int .i64 t], .int .i64 x, .int .i64 y] w fun ed w' => ed = .returned (.int .i64 z) ∧ Below w.heap.size w w' := by
  have z0 : (t == 0) = false := by simp; exact h0
  have z1 : decide (x < -8191) = false := by simp; omega
  have z2 : decide (8191 < x) = false := by simp; omega
  have z3 : decide (y < -8191) = false := by simp; omega
  have z4 : decide (8191 < y) = false := by simp; omega
  go_enter Try.func59, Try.ntmps59
  go_wp2_with fail
  have Kv := (Blk.new w 92 #[.int .i64 W, .int .i64 H, .int .i64 B, .string s, .int .i64 a, .int .i64 b, .int .i64 c, .int .i64 d, .int .i64 e, .int .i64 f, .int .i64 t])
  have hbw : Below w.heap.size w (w.alloc (.cells #[.int .i64 W, .int .i64 H, .int .i64 B, .string s, .int .i64 a, .int .i64 b, .int .i64 c, .int .i64 d, .int .i64 e, .int .i64 f, .int .i64 t] 92)) := by (repeat' (first | exact Below.refl _ _ | exact Below.refl _ _ | refine balloc ?_ _ | refine Below.drew ?_ | refine below_drewN ?_ _ | refine bset ?_ (by first | omega | (simp <;> omega)) _))
  generalize hwx : (w.alloc (.cells #[.int .i64 W, .int .i64 H, .int .i64 B, .string s, .int .i64 a, .int .i64 b, .int .i64 c, .int .i64 d, .int .i64 e, .int .i64 f, .int .i64 t] 92)) = wa at *
  clear hwx
  have lKv := Kv.lt
  have cKv0 := Kv.cell 0
  have cKv1 := Kv.cell 1
  have cKv2 := Kv.cell 2
  have cKv3 := Kv.cell 3
  have cKv4 := Kv.cell 4
  have cKv5 := Kv.cell 5
  have cKv6 := Kv.cell 6
  have cKv7 := Kv.cell 7
  have cKv8 := Kv.cell 8
  have cKv9 := Kv.cell 9
  have cKv10 := Kv.cell 10
  simp only [List.getElem?_toArray, List.getElem?_cons_succ, List.getElem?_cons_zero] at cKv0 cKv1 cKv2 cKv3 cKv4 cKv5 cKv6 cKv7 cKv8 cKv9 cKv10
  have uKv0 : ∀ u : Up wa, u.val.cell? ⟨w.heap.size, 0, none⟩ = some (.int .i64 W) := fun u => (u.cell lKv).trans cKv0
  have uKv1 : ∀ u : Up wa, u.val.cell? ⟨w.heap.size, 1, none⟩ = some (.int .i64 H) := fun u => (u.cell lKv).trans cKv1
  have uKv2 : ∀ u : Up wa, u.val.cell? ⟨w.heap.size, 2, none⟩ = some (.int .i64 B) := fun u => (u.cell lKv).trans cKv2
  have uKv3 : ∀ u : Up wa, u.val.cell? ⟨w.heap.size, 3, none⟩ = some (.string s) := fun u => (u.cell lKv).trans cKv3
  have uKv4 : ∀ u : Up wa, u.val.cell? ⟨w.heap.size, 4, none⟩ = some (.int .i64 a) := fun u => (u.cell lKv).trans cKv4
  have uKv5 : ∀ u : Up wa, u.val.cell? ⟨w.heap.size, 5, none⟩ = some (.int .i64 b) := fun u => (u.cell lKv).trans cKv5
  have uKv6 : ∀ u : Up wa, u.val.cell? ⟨w.heap.size, 6, none⟩ = some (.int .i64 c) := fun u => (u.cell lKv).trans cKv6
  have uKv7 : ∀ u : Up wa, u.val.cell? ⟨w.heap.size, 7, none⟩ = some (.int .i64 d) := fun u => (u.cell lKv).trans cKv7
  have uKv8 : ∀ u : Up wa, u.val.cell? ⟨w.heap.size, 8, none⟩ = some (.int .i64 e) := fun u => (u.cell lKv).trans cKv8
  have uKv9 : ∀ u : Up wa, u.val.cell? ⟨w.heap.size, 9, none⟩ = some (.int .i64 f) := fun u => (u.cell lKv).trans cKv9
  have uKv10 : ∀ u : Up wa, u.val.cell? ⟨w.heap.size, 10, none⟩ = some (.int .i64 t) := fun u => (u.cell lKv).trans cKv10
  refine wp_region_up (by kernel_rfl) (by kernel_rfl) ?_
  repeat (go_big_quiet_step (fail))
  refine wpQuiet_nil ?_
  rintro _ ⟨uq, rfl⟩
  replace Kv := Kv.below uq.ok lKv
  replace hbw := btrans hbw uq.ok
  generalize hwx : uq.val = w1 at *
  clear hwx uq lKv cKv0 cKv1 cKv2 cKv3 cKv4 cKv5 cKv6 cKv7 cKv8 cKv9 cKv10 uKv0 uKv1 uKv2 uKv3 uKv4 uKv5 uKv6 uKv7 uKv8 uKv9 uKv10
  have lKv := Kv.lt
  have cKv0 := Kv.cell 0
  have cKv1 := Kv.cell 1
  have cKv2 := Kv.cell 2
  have cKv3 := Kv.cell 3
  have cKv4 := Kv.cell 4
  have cKv5 := Kv.cell 5
  have cKv6 := Kv.cell 6
  have cKv7 := Kv.cell 7
  have cKv8 := Kv.cell 8
  have cKv9 := Kv.cell 9
  have cKv10 := Kv.cell 10
  simp only [List.getElem?_toArray, List.getElem?_cons_succ, List.getElem?_cons_zero] at cKv0 cKv1 cKv2 cKv3 cKv4 cKv5 cKv6 cKv7 cKv8 cKv9 cKv10
  go_wp2_with fail
  have uKv0 : ∀ u : Up w1, u.val.cell? ⟨w.heap.size, 0, none⟩ = some (.int .i64 W) := fun u => (u.cell lKv).trans cKv0
  have uKv1 : ∀ u : Up w1, u.val.cell? ⟨w.heap.size, 1, none⟩ = some (.int .i64 H) := fun u => (u.cell lKv).trans cKv1
  have uKv2 : ∀ u : Up w1, u.val.cell? ⟨w.heap.size, 2, none⟩ = some (.int .i64 B) := fun u => (u.cell lKv).trans cKv2
  have uKv3 : ∀ u : Up w1, u.val.cell? ⟨w.heap.size, 3, none⟩ = some (.string s) := fun u => (u.cell lKv).trans cKv3
  have uKv4 : ∀ u : Up w1, u.val.cell? ⟨w.heap.size, 4, none⟩ = some (.int .i64 a) := fun u => (u.cell lKv).trans cKv4
  have uKv5 : ∀ u : Up w1, u.val.cell? ⟨w.heap.size, 5, none⟩ = some (.int .i64 b) := fun u => (u.cell lKv).trans cKv5
  have uKv6 : ∀ u : Up w1, u.val.cell? ⟨w.heap.size, 6, none⟩ = some (.int .i64 c) := fun u => (u.cell lKv).trans cKv6
  have uKv7 : ∀ u : Up w1, u.val.cell? ⟨w.heap.size, 7, none⟩ = some (.int .i64 d) := fun u => (u.cell lKv).trans cKv7
  have uKv8 : ∀ u : Up w1, u.val.cell? ⟨w.heap.size, 8, none⟩ = some (.int .i64 e) := fun u => (u.cell lKv).trans cKv8
  have uKv9 : ∀ u : Up w1, u.val.cell? ⟨w.heap.size, 9, none⟩ = some (.int .i64 f) := fun u => (u.cell lKv).trans cKv9
  have uKv10 : ∀ u : Up w1, u.val.cell? ⟨w.heap.size, 10, none⟩ = some (.int .i64 t) := fun u => (u.cell lKv).trans cKv10
  have HU1 := Lib.hid (fun u : Up w1 => up_same (u := u) (HD1.out u.val))
  have HU2 := Lib.hid (fun u : Up w1 => up_same (u := u) (HD2.out u.val))
  have HU3 := Lib.hid (fun u : Up w1 => up_of (u := u) (HS.out u.val))
  refine wp_region_up (by kernel_rfl) (by kernel_rfl) ?_
  repeat (go_big_quiet_step (fail))
  go_big_quiet_step (exact HU1.out _)
  repeat (go_big_quiet_step (fail))
  go_big_quiet_step (exact HU2.out _)
  repeat (go_big_quiet_step (fail))
  go_big_quiet_step (exact HU3.out _)
  repeat (go_big_quiet_step (fail))
  refine wpQuiet_nil ?_
  rintro _ ⟨uq, rfl⟩
  replace hbw := btrans hbw uq.ok
  generalize hwx : uq.val = w2 at *
  clear hwx uq Kv lKv cKv0 cKv1 cKv2 cKv3 cKv4 cKv5 cKv6 cKv7 cKv8 cKv9 cKv10 uKv0 uKv1 uKv2 uKv3 uKv4 uKv5 uKv6 uKv7 uKv8 uKv9 uKv10 HU1 HU2 HU3
  go_wp2_with fail
  go_ret
  exact ⟨rfl, hbw⟩

end Go.Proofs.Ytegpjjkbbdfggaa.im
