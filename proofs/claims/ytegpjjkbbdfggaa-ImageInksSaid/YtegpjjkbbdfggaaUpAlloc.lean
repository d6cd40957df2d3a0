/-
  A region that draws its order: its head reads and calls (the callees may make memory of their own), then come allocs, each of which may come at any time, its last operations come in one forced order; some moves and extracts of the head may come later still.
-/
import Derived.Test.YtegpjjkbbdfggaaDet
import Derived.Lib.Hide
namespace Go.Proofs.Ytegpjjkbbdfggaa.bs
set_option linter.unusedVariables false
set_option linter.unusedSimpArgs false
open Go.RowKit

section
variable {P : Program} {ops : Array Oper} {md : Region.Mode} {C : World → Prop}

def sinkA (md : Region.Mode) (ops : Array Oper) (n m : Nat) : Bool :=
  (List.range n).all fun i => (List.range (n + m + 1)).any fun j => decide (i < j) && (decide (j < n) || decide (j = n + m)) && Region.waitsFor md ops j i
def chainA (md : Region.Mode) (ops : Array Oper) (n m : Nat) : Bool :=
  (List.range ops.size).all fun t => decide (t ≤ n + m) || Region.waitsFor md ops t (t - 1)
/-- no head operation waits for an alloc; no alloc waits; the first of the last operations waits for each alloc -/
def freeA (md : Region.Mode) (ops : Array Oper) (n m : Nat) : Bool :=
  (List.range m).all fun j => (List.range n).all (fun i => !Region.waitsFor md ops i (n + j)) && Region.waitsFor md ops (n + m) (n + j) &&
    match ops[n + j]? with
    | some o => o.after.all (fun e => !Region.binds md e) && o.guard.isNone &&
        (List.range n).all (fun i => match ops[i]? with
          | some oi => o.apart ops oi
          | none => true) &&
        (List.range m).all (fun i => i == j || match ops[n + i]? with
          | some oi => o.apart ops oi
          | none => true)
    | none => false
structure InvA (md : Region.Mode) (ops : Array Oper) (n m : Nat) (listed : Array Bool) : Prop where
  size : listed.size = ops.size
  closed : ∀ j oj, j < n → ops[j]? = some oj → listed.getD j false = true → ∀ e ∈ oj.after, Region.binds md e = true → listed.getD e.on false = true
  tail : ∀ t, n + m ≤ t → t < ops.size → listed.getD t true = false

theorem tail_waitsA {n m : Nat} {listed : Array Bool} (hs : sinkA md ops n m = true) (hc : chainA md ops n m = true) (hn : n + m < ops.size) (inv : InvA md ops n m listed) :
    ∀ (d i : Nat), n - i = d → i < n → listed.getD i true = false → ∀ t, n + m ≤ t → t ∉ Region.ready md ops listed := by
  intro d
  induction d using Nat.strongRecOn with
  | _ d ih =>
    intro i hd hi hun t ht hr
    obtain ⟨_, ot, hot, hall⟩ := mem_ready.1 hr
    have htlt : t < ops.size := (Array.getElem?_eq_some_iff.1 hot).1
    by_cases htn : t = n + m
    · have h1 := List.all_eq_true.1 hs i (List.mem_range.2 hi)
      obtain ⟨j, hj, hj2⟩ := List.any_eq_true.1 h1
      simp only [Bool.and_eq_true, Bool.or_eq_true, decide_eq_true_eq] at hj2
      obtain ⟨⟨hij, hjn⟩, hw⟩ := hj2
      obtain ⟨oj, hoj, e, he, hb, hon⟩ := Region.waitsFor_spec hw
      by_cases hjt : j = t
      · subst hjt
        have : oj = ot := Option.some.inj (hoj.symm.trans hot)
        subst this
        have h2 := hall e he hb
        rw [hon, getD_both hun] at h2
        cases h2
      · cases hl : listed.getD j false with
        | true =>
          have h2 := inv.closed j oj (by omega) hoj hl e he hb
          rw [hon, getD_both hun] at h2
          cases h2
        | false =>
          have hjs : j < listed.size := by rw [inv.size]; omega
          exact ih (n - j) (by omega) j rfl (by omega) (getD_in hjs hl) t ht hr
    · have h1 := List.all_eq_true.1 hc t (List.mem_range.2 htlt)
      simp only [Bool.or_eq_true, decide_eq_true_eq] at h1
      rcases h1 with h1 | h1
      · omega
      · obtain ⟨o', ho', e, he, hb, hon⟩ := Region.waitsFor_spec h1
        have : o' = ot := Option.some.inj (ho'.symm.trans hot)
        subst this
        have h2 := hall e he hb
        rw [hon, getD_both (inv.tail (t - 1) (by omega) (by omega))] at h2
        cases h2

/-- the head in whatever order, the allocs not yet come -/
def anyHeadA (P : Program) (md : Region.Mode) (ops : Array Oper) (C : World → Prop) (n m : Nat) (L : Array Bool → Act → Prop) : Nat → Array Bool → Act → Prop
  | 0, listed, a => L listed a
  | k + 1, listed, a => (∃ i ∈ Region.ready md ops listed, i < n) ∧ ∀ i ∈ Region.ready md ops listed, (n ≤ i ∧ i < n + m) ∨ i < n ∧ qOp P ops C i (anyHeadA P md ops C n m L k (listed.setIfInBounds i true)) a

theorem invA_of {n m : Nat} {listed : Array Bool} (inv : HeadInv md ops n listed) : InvA md ops n m listed :=
  ⟨inv.size, fun j oj _ => inv.closed j oj, fun t ht => inv.tail t (by omega)⟩

theorem head_firstA {n m i : Nat} {oi : Oper} {v : Value} {L : Array Bool → Act → Prop} (hi : ops[i]? = some oi) (hsel : ∀ (j : Nat) (o : Oper) cs b, ops[j]? = some o → o.op ≠ .select cs b)
    (hs : sinkA md ops n m = true) (hc : chainA md ops n m = true) (hn : n + m < ops.size) (hin : i < n) (hdone : ∀ listed a, L listed a → ∀ j ∈ Region.ready md ops listed, n ≤ j) (k : Nat) :
    ∀ (listed : Array Bool) (a : Act), HeadInv md ops n listed →
      (∀ j oj, ops[j]? = some oj → j ≠ i → listed.getD j true = false → (∀ e ∈ oj.after, Region.binds md e = true → e.on ≠ i) → oi.apart ops oj = true) →
      i ∈ Region.ready md ops listed → YieldsIn P ops C oi v a →
      anyHeadA P md ops C n m L k (listed.setIfInBounds i true) (a.put oi.dst v) → anyHeadA P md ops C n m L (k + 1) listed a := by
  have small : ∀ {listed : Array Bool}, HeadInv md ops n listed → i ∈ Region.ready md ops listed → ∀ j ∈ Region.ready md ops listed, (n ≤ j ∧ j < n + m) ∨ j < n := by
    intro listed inv hr j hj
    rcases Nat.lt_or_ge j (n + m) with h | h
    · omega
    · exact absurd hj (tail_waitsA hs hc hn (invA_of inv) _ i rfl hin (mem_ready.1 hr).1 j h)
  induction k with
  | zero =>
    intro listed a inv _ hr hy H
    refine ⟨⟨i, hr, hin⟩, fun j hj => ?_⟩
    rcases small inv hr j hj with h | h
    · exact .inl h
    · refine .inr ⟨h, ?_⟩
      by_cases hji : j = i
      · rw [hji]; exact hy.qOp hi H
      · exact absurd h (by have := hdone _ _ H j (ready_mono hj hji); omega)
  | succ k ih =>
    intro listed a inv hfree hr hy H
    refine ⟨⟨i, hr, hin⟩, fun j hj => ?_⟩
    rcases small inv hr j hj with h | hjn
    · exact .inl h
    · refine .inr ⟨hjn, ?_⟩
      by_cases hji : j = i
      · rw [hji]; exact hy.qOp hi H
      · obtain ⟨hjun, oj, hoj, hall⟩ := mem_ready.1 hj
        have hnot : ∀ e ∈ oj.after, Region.binds md e = true → e.on ≠ i := fun e he hb heq => by
          have h1 := hall e he hb
          rw [heq, getD_both (mem_ready.1 hr).1] at h1
          cases h1
        have hq : qOp P ops C j (anyHeadA P md ops C n m L k ((listed.setIfInBounds i true).setIfInBounds j true)) (a.put oi.dst v) := by
          rcases H.2 j (ready_mono hj hji) with h | h
          · omega
          · exact h.2
        have h2 := qOp_put hoj (hfree j oj hoj hji hjun hnot) (fun cs b => hsel i oi cs b hi) (fun cs b => hsel j oj cs b hoj) hy hq
        refine qOp_mono (fun a' h3 => ih (listed.setIfInBounds j true) a' (inv.set hj hjn) ?_ (ready_mono hr (Ne.symm hji)) h3.1 ?_) h2
        · intro o om hm hmi hun hno
          refine hfree o om hm hmi ?_ hno
          by_cases hjm : j = o
          · rw [← hjm]; exact hjun
          · rwa [getD_set_ne true hjm] at hun
        · rw [Array.setIfInBounds_comm _ _ hji]
          exact h3.2

def markAll (n : Nat) : Nat → Array Bool → Array Bool
  | 0, listed => listed
  | m + 1, listed => (markAll n m listed).setIfInBounds (n + m) true
def endB (md : Region.Mode) (ops : Array Oper) (n m g : Nat) (listed : Array Bool) : Bool :=
  (Region.ready md ops listed).all (fun j => decide (n ≤ j)) && Region.seqB md ops g (n + m) (markAll n m listed)
def lexHeadA (md : Region.Mode) (ops : Array Oper) (n m g : Nat) : Nat → Nat → Array Bool → Bool
  | 0, _, listed => endB md ops n m g listed
  | f + 1, k, listed => (Region.ready md ops listed).contains k && Region.free md ops listed k && lexHeadA md ops n m g f (k + 1) (listed.setIfInBounds k true)

theorem head_lexA {n m g : Nat} {Lq : Act → Prop} (hsel : Region.noSelect ops = true) (hs : sinkA md ops n m = true) (hc : chainA md ops n m = true) (hn : n + m < ops.size) (l : List Oper) :
    ∀ (k : Nat) (listed : Array Bool) (a : Act), (∀ j, j < l.length → l[j]? = ops[k + j]?) → k + l.length = n → HeadInv md ops n listed →
    lexHeadA md ops n m g l.length k listed = true → wpQuiet P ops C Lq l a → anyHeadA P md ops C n m (fun listed' a' => endB md ops n m g listed' = true ∧ Lq a') l.length listed a := by
  induction l with
  | nil =>
    intro k listed a _ hk _ hB h
    exact ⟨by simpa [lexHeadA] using hB, h⟩
  | cons o l ih =>
    intro k listed a hl hk inv hB h
    have h0 : ops[k]? = some o := by simpa using (hl 0 (by simp)).symm
    simp only [List.length_cons, lexHeadA, Bool.and_eq_true] at hB
    obtain ⟨⟨hr, hf⟩, hB'⟩ := hB
    simp only [List.length_cons] at hk
    have hr' : k ∈ Region.ready md ops listed := by simpa using hr
    have hst : qOp P ops C k (wpQuiet P ops C Lq l) a := by unfold qOp; simp only [h0]; exact h
    obtain ⟨v, hy, hK⟩ := yieldsIn_of_qOp h0 hst
    refine head_firstA h0 (Region.noSelect_spec hsel) hs hc hn (by omega) (fun listed' a' hL j hj => ?_) l.length listed a inv (Region.free_spec h0 hf) hr' hy ?_
    · have h1 := hL.1
      simp only [endB, Bool.and_eq_true] at h1
      simpa using List.all_eq_true.1 h1.1 j hj
    · refine ih (k + 1) _ _ (fun j hj => ?_) (by omega) (inv.set hr' (by omega)) hB' hK
      have := hl (j + 1) (by simp; omega)
      simpa [Nat.add_assoc, Nat.add_comm 1 j] using this

/-- the allocs that have come, in their slots -/
def putsC (ops : Array Oper) (n : Nat) (blk : Nat → Nat) (done : Nat → Bool) : Nat → Act → Act
  | 0, a => a
  | m + 1, a => if done (n + m) then (putsC ops n blk done m a).put ((ops[n + m]?).bind (·.dst)) (.pointer (some ⟨blk (n + m), 0, none⟩)) else putsC ops n blk done m a
def cntC (n : Nat) (done : Nat → Bool) : Nat → Nat
  | 0 => 0
  | m + 1 => cntC n done m + if done (n + m) then 0 else 1

theorem putsC_congr {n : Nat} {blk blk' : Nat → Nat} {done done' : Nat → Bool} (m : Nat) (a : Act) (h : ∀ j, j < m → done' (n + j) = done (n + j) ∧ blk' (n + j) = blk (n + j)) :
    putsC ops n blk' done' m a = putsC ops n blk done m a := by
  induction m with
  | zero => rfl
  | succ m ih =>
    have h1 := h m (by omega)
    simp only [putsC]
    rw [h1.1, h1.2, ih (fun j hj => h j (by omega))]
theorem putsC_add {n i B : Nat} {blk blk' : Nat → Nat} {done done' : Nat → Bool} {m M : Nat} (hap : ∀ j j', j < M → j' < M → j ≠ j' → ∀ o o', ops[n + j]? = some o → ops[n + j']? = some o' → o.apart ops o' = true) (a : Act)
    (hd : done (n + i) = false) (hd' : done' (n + i) = true) (hb : blk' (n + i) = B) (h : ∀ j, j ≠ i → done' (n + j) = done (n + j) ∧ blk' (n + j) = blk (n + j)) (him : i < m) (hmM : m ≤ M) :
    putsC ops n blk' done' m a = (putsC ops n blk done m a).put ((ops[n + i]?).bind (·.dst)) (.pointer (some ⟨B, 0, none⟩)) := by
  induction m with
  | zero => omega
  | succ m ih =>
    simp only [putsC]
    by_cases hmi : m = i
    · subst hmi
      rw [hd, hd', hb, putsC_congr m a (fun j hj => h j (by omega))]
      simp
    · have h1 := h m hmi
      rw [h1.1, h1.2, ih (by omega) (by omega)]
      split
      · refine Act.put_comm _ _ _ ?_
        intro d hx hy
        cases ho : ops[n + i]? with
        | none => rw [ho] at hx; cases hx
        | some o =>
          cases ho' : ops[n + m]? with
          | none => rw [ho'] at hy; cases hy
          | some o' =>
            rw [ho] at hx
            rw [ho'] at hy
            exact (Oper.apart_spec (hap i m (by omega) (by omega) (Ne.symm hmi) o o' ho ho')).2.1 d hx hy
      · rfl
theorem cntC_congr {n : Nat} {done done' : Nat → Bool} (m : Nat) (h : ∀ j, j < m → done' (n + j) = done (n + j)) : cntC n done' m = cntC n done m := by
  induction m with
  | zero => rfl
  | succ m ih =>
    simp only [cntC]
    rw [h m (by omega), ih (fun j hj => h j (by omega))]
theorem cntC_add {n i : Nat} {done done' : Nat → Bool} (m : Nat) (hd : done (n + i) = false) (hd' : done' (n + i) = true) (h : ∀ j, j ≠ i → done' (n + j) = done (n + j)) (him : i < m) : cntC n done m = cntC n done' m + 1 := by
  induction m with
  | zero => omega
  | succ m ih =>
    simp only [cntC]
    by_cases hmi : m = i
    · subst hmi
      rw [hd, hd', cntC_congr m (fun j hj => h j (by omega))]
      simp
    · rw [h m hmi, ih (by omega)]
      omega
theorem cntC_zero {n : Nat} {done : Nat → Bool} (m : Nat) (h : cntC n done m = 0) : ∀ j, j < m → done (n + j) = true := by
  induction m with
  | zero => intro j hj; omega
  | succ m ih =>
    simp only [cntC] at h
    intro j hj
    by_cases hjm : j = m
    · subst hjm
      cases hd : done (n + j) with
      | true => rfl
      | false => rw [hd] at h; simp at h
    · exact ih (by omega) j (by omega)
theorem cntC_pos {n : Nat} {done : Nat → Bool} (m : Nat) (h : cntC n done m ≠ 0) : ∃ j, j < m ∧ done (n + j) = false := by
  induction m with
  | zero => exact absurd rfl h
  | succ m ih =>
    cases hd : done (n + m) with
    | false => exact ⟨m, by omega, hd⟩
    | true =>
      simp only [cntC, hd, if_true, Nat.add_zero] at h
      obtain ⟨j, hj, h1⟩ := ih h
      exact ⟨j, by omega, h1⟩
theorem cntC_none {n : Nat} {done : Nat → Bool} (m : Nat) (h : ∀ j, j < m → done (n + j) = false) : cntC n done m = m := by
  induction m with
  | zero => rfl
  | succ m ih => simp only [cntC]; rw [h m (by omega), ih (fun j hj => h j (by omega))]; simp
theorem putsC_none {n : Nat} {blk : Nat → Nat} {done : Nat → Bool} (m : Nat) (a : Act) (h : ∀ j, j < m → done (n + j) = false) : putsC ops n blk done m a = a := by
  induction m with
  | zero => rfl
  | succ m ih => simp only [putsC]; rw [h m (by omega), ih (fun j hj => h j (by omega))]; simp

theorem puts_yields {n : Nat} {blk : Nat → Nat} {done : Nat → Bool} {oi : Oper} {v : Value} (hsi : ∀ cs b, oi.op ≠ .select cs b) (m : Nat) (hap : ∀ j, j < m → ∀ o, ops[n + j]? = some o → o.apart ops oi = true) {a : Act} (hy : YieldsIn P ops C oi v a) :
    YieldsIn P ops C oi v (putsC ops n blk done m a) ∧ (putsC ops n blk done m a).put oi.dst v = putsC ops n blk done m (a.put oi.dst v) := by
  induction m with
  | zero => exact ⟨hy, rfl⟩
  | succ m ih =>
    obtain ⟨h1, h2⟩ := ih (fun j hj => hap j (by omega))
    simp only [putsC]
    split
    · cases ho : ops[n + m]? with
      | none => exact ⟨h1, h2⟩
      | some o =>
        obtain ⟨p1, p2, p3⟩ := Oper.apart_spec (hap m (by omega) o ho)
        refine ⟨h1.of_same (execOp_put oi hsi _ _ _ p1) (wanted_put oi _ _ _ p1), ?_⟩
        rw [← h2]
        exact Act.put_comm _ _ _ p2
    · exact ⟨h1, h2⟩

theorem markAll_size {n : Nat} {listed : Array Bool} (m : Nat) : (markAll n m listed).size = listed.size := by
  induction m with
  | zero => rfl
  | succ m ih => simp [markAll, ih]
theorem markAll_get {n : Nat} {listed : Array Bool} (m : Nat) (hm : n + m ≤ listed.size) (j : Nat) : (markAll n m listed)[j]? = if n ≤ j ∧ j < n + m then some true else listed[j]? := by
  induction m with
  | zero =>
    rw [if_neg (by omega)]
    rfl
  | succ m ih =>
    simp only [markAll]
    by_cases hj : j = n + m
    · subst hj
      rw [if_pos (by omega), Array.getElem?_setIfInBounds_self_of_lt (by rw [markAll_size]; omega)]
    · rw [Array.getElem?_setIfInBounds_ne (Ne.symm hj), ih (by omega)]
      by_cases h : n ≤ j ∧ j < n + m
      · rw [if_pos h, if_pos (by omega)]
      · rw [if_neg h, if_neg (by omega)]

/-- the blocks that the allocs made, in the world of now -/
def BlkAt (w0 w : World) (n m : Nat) (objs : Nat → Obj) (blk : Nat → Nat) (done : Nat → Bool) : Prop :=
  (∀ j, j < m → done (n + j) = true → w0.heap.size ≤ blk (n + j) ∧ blk (n + j) < w.heap.size ∧ w.heap[blk (n + j)]? = some (objs j)) ∧
  ∀ j j', j < m → j' < m → done (n + j) = true → done (n + j') = true → j ≠ j' → blk (n + j) ≠ blk (n + j')

theorem BlkAt.keep {w0 w w' : World} {n m : Nat} {objs : Nat → Obj} {blk : Nat → Nat} {done : Nat → Bool} (h : BlkAt w0 w n m objs blk done) (hb : Below w.heap.size w w') : BlkAt w0 w' n m objs blk done :=
  ⟨fun j hj hd => let ⟨h1, h2, h3⟩ := h.1 j hj hd; ⟨h1, Nat.lt_of_lt_of_le h2 hb.size, by rw [hb.block _ h2]; exact h3⟩, h.2⟩

def allocOk (P : Program) (objs : Nat → Obj) (ops : Array Oper) (n m : Nat) : Prop :=
  ∀ j, j < m → ∀ o, ops[n + j]? = some o → ∀ ρ w, (execOp ρ o).run P w = .ok (.value (.pointer (some ⟨w.heap.size, 0, none⟩))) (w.alloc (objs j))

theorem any_of_alloc {n m g : Nat} {w0 : World} {objs : Nat → Obj} {Lq : Act → Prop} {Q' : Exit → Act → World → Prop} (hsel : ∀ (j : Nat) (o : Oper) cs b, ops[j]? = some o → o.op ≠ .select cs b)
    (hs : sinkA md ops n m = true) (hc : chainA md ops n m = true) (hf : freeA md ops n m = true) (hn : n + m < ops.size) (hal : allocOk P objs ops n m)
    (hL : ∀ listed0 a0 blk w', endB md ops n m g listed0 = true → Lq a0 → (∃ u : Up w0, w' = u.val) → BlkAt w0 w' n m objs blk (fun _ => true) → wpAny P md ops Q' g (markAll n m listed0) (putsC ops n blk (fun _ => true) m a0) w') (t : Nat) :
    ∀ (k : Nat) (listed0 listed : Array Bool) (a0 : Act) (blk : Nat → Nat) (w' : World), k + cntC n (fun j => listed.getD j false) m = t → HeadInv md ops n listed0 →
      listed.size = ops.size → (∀ j, ¬ (n ≤ j ∧ j < n + m) → listed[j]? = listed0[j]?) → (∃ u : Up w0, w' = u.val) → BlkAt w0 w' n m objs blk (fun j => listed.getD j false) →
      (∀ u0 : Up w0, anyHeadA P md ops (fun w' => ∃ u : Up u0.val, w' = u.val) n m (fun listed' a' => endB md ops n m g listed' = true ∧ Lq a') k listed0 a0) →
      wpAny P md ops Q' (t + g) listed (putsC ops n blk (fun j => listed.getD j false) m a0) w' := by
  have free : ∀ j, j < m → (∀ i, i < n → Region.waitsFor md ops i (n + j) = false) ∧ Region.waitsFor md ops (n + m) (n + j) = true ∧ ∃ o, ops[n + j]? = some o ∧ (∀ e ∈ o.after, Region.binds md e = false) ∧ o.guard = none ∧
      (∀ i oi, i < n → ops[i]? = some oi → o.apart ops oi = true) ∧ ∀ i oi, i < m → i ≠ j → ops[n + i]? = some oi → o.apart ops oi = true := by
    intro j hj
    have h1 := List.all_eq_true.1 hf j (List.mem_range.2 hj)
    simp only [Bool.and_eq_true] at h1
    obtain ⟨⟨h2, h3⟩, h4⟩ := h1
    refine ⟨fun i hi => by simpa using List.all_eq_true.1 h2 i (List.mem_range.2 hi), h3, ?_⟩
    cases ho : ops[n + j]? with
    | none => rw [ho] at h4; cases h4
    | some o =>
      rw [ho] at h4
      simp only [Bool.and_eq_true] at h4
      obtain ⟨⟨⟨h5, h6⟩, h7⟩, h8⟩ := h4
      refine ⟨o, rfl, fun e he => by simpa using Array.all_eq_true_iff_forall_mem.1 h5 e he, by simpa using h6, fun i oi hi hoi => ?_, fun i oi hi hij hoi => ?_⟩
      · have := List.all_eq_true.1 h7 i (List.mem_range.2 hi)
        simpa [hoi] using this
      · have := List.all_eq_true.1 h8 i (List.mem_range.2 hi)
        simpa [hoi, hij] using this
  induction t with
  | zero =>
    intro k listed0 listed a0 blk w' hk inv hsz hR hw hB H
    have hk0 : k = 0 := by omega
    have hc0 : cntC n (fun j => listed.getD j false) m = 0 := by omega
    subst hk0
    obtain ⟨hE, hq⟩ := H (Up.of (Below.refl _ _))
    have hd := cntC_zero m hc0
    have hlm : listed = markAll n m listed0 := by
      apply Array.ext_getElem?
      intro j
      rw [markAll_get m (by rw [inv.size]; omega)]
      by_cases h : n ≤ j ∧ j < n + m
      · rw [if_pos h]
        have h1 := hd (j - n) (by omega)
        rw [show n + (j - n) = j by omega] at h1
        have hlt : j < listed.size := by rw [hsz]; omega
        simpa [hlt] using h1
      · rw [if_neg h]; exact hR j h
    rw [Nat.zero_add, putsC_congr (blk := blk) (done := fun _ => true) m a0 (fun j hj => ⟨hd j hj, rfl⟩)]
    subst hlm
    exact hL listed0 a0 blk w' hE hq hw ⟨fun j hj _ => hB.1 j hj (hd j hj), fun j j' hj hj' _ _ => hB.2 j j' hj hj' (hd j hj) (hd j' hj')⟩
  | succ t ih =>
    intro k listed0 listed a0 blk w' hk inv hsz hR hw hB H
    have hget : ∀ j d, ¬ (n ≤ j ∧ j < n + m) → listed.getD j d = listed0.getD j d := fun j d h => by
      simp only [Array.getD_eq_getD_getElem?]
      rw [hR j h]
    have inv' : InvA md ops n m listed := ⟨hsz, fun j oj hj hoj hl e he hb => by
        rw [hget j false (by omega)] at hl
        have h1 := inv.closed j oj hoj hl e he hb
        by_cases h : n ≤ e.on ∧ e.on < n + m
        · have := (free (e.on - n) (by omega)).1 j hj
          rw [show n + (e.on - n) = e.on by omega] at this
          unfold Region.waitsFor at this
          simp only [hoj] at this
          have h2 : (oj.after.any fun e' => Region.binds md e' && e'.on == e.on) = true := Array.any_eq_true'.2 ⟨e, he, by simp [hb]⟩
          rw [h2] at this
          cases this
        · rw [hget _ _ h]; exact h1, fun t ht ht' => by rw [hget t true (by omega)]; exact inv.tail t (by omega) ht'⟩
    have up : ∀ i, i < n → i ∈ Region.ready md ops listed0 → i ∈ Region.ready md ops listed := by
      intro i hi hr
      obtain ⟨hun, oi, hoi, hall⟩ := mem_ready.1 hr
      refine mem_ready.2 ⟨by rw [hget i true (by omega)]; exact hun, oi, hoi, fun e he hb => ?_⟩
      by_cases h : n ≤ e.on ∧ e.on < n + m
      · have := (free (e.on - n) (by omega)).1 i hi
        rw [show n + (e.on - n) = e.on by omega] at this
        unfold Region.waitsFor at this
        simp only [hoi] at this
        have h2 : (oi.after.any fun e' => Region.binds md e' && e'.on == e.on) = true := Array.any_eq_true'.2 ⟨e, he, by simp [hb]⟩
        rw [h2] at this
        cases this
      · rw [hget _ _ h]; exact hall e he hb
    have down : ∀ i, i < n → i ∈ Region.ready md ops listed → i ∈ Region.ready md ops listed0 := by
      intro i hi hr
      obtain ⟨hun, oi, hoi, hall⟩ := mem_ready.1 hr
      refine mem_ready.2 ⟨by rw [← hget i true (by omega)]; exact hun, oi, hoi, fun e he hb => ?_⟩
      by_cases h : n ≤ e.on ∧ e.on < n + m
      · have := (free (e.on - n) (by omega)).1 i hi
        rw [show n + (e.on - n) = e.on by omega] at this
        unfold Region.waitsFor at this
        simp only [hoi] at this
        have h2 : (oi.after.any fun e' => Region.binds md e' && e'.on == e.on) = true := Array.any_eq_true'.2 ⟨e, he, by simp [hb]⟩
        rw [h2] at this
        cases this
      · rw [← hget _ _ h]; exact hall e he hb
    have undone : k = 0 → ∃ j, j < m ∧ listed.getD (n + j) false = false := fun hk0 => cntC_pos (done := fun j => listed.getD j false) m (by omega)
    have hready : Region.ready md ops listed ≠ [] := by
      cases k with
      | zero =>
        obtain ⟨j, hj, hd⟩ := undone rfl
        obtain ⟨_, _, o, ho, hb, _⟩ := free j hj
        have : n + j ∈ Region.ready md ops listed := mem_ready.2 ⟨getD_in (by rw [hsz]; omega) hd, o, ho, fun e he hb' => by rw [hb e he] at hb'; cases hb'⟩
        intro h; rw [h] at this; cases this
      | succ k =>
        obtain ⟨i, hi, hin⟩ := (H (Up.of (Below.refl _ _))).1
        have := up i hin hi
        intro h; rw [h] at this; cases this
    rw [Nat.add_right_comm]
    refine ⟨fun h => absurd h hready, fun i hi => ?_⟩
    rcases Nat.lt_or_ge i n with hin | hin
    · -- a head operation
      cases k with
      | zero =>
        have h1 := (H (Up.of (Below.refl _ _))).1
        simp only [endB, Bool.and_eq_true] at h1
        have := List.all_eq_true.1 h1.1 i (down i hin hi)
        simp at this
        omega
      | succ k =>
        obtain ⟨_, oi, hoi, _⟩ := mem_ready.1 hi
        have hri := down i hin hi
        have HQ : ∀ u0 : Up w0, ∃ v, YieldsIn P ops (fun w' => ∃ u : Up u0.val, w' = u.val) oi v a0 ∧ anyHeadA P md ops (fun w' => ∃ u : Up u0.val, w' = u.val) n m (fun listed' a' => endB md ops n m g listed' = true ∧ Lq a') k (listed0.setIfInBounds i true) (a0.put oi.dst v) := by
          intro u0
          rcases (H u0).2 i hri with h | h
          · omega
          · exact yieldsIn_of_qOp hoi h.2
        obtain ⟨v, hy, _⟩ := HQ (Up.of (Below.refl _ _))
        have same : ∀ u0 : Up w0, YieldsIn P ops (fun w' => ∃ u : Up u0.val, w' = u.val) oi v a0 ∧ anyHeadA P md ops (fun w' => ∃ u : Up u0.val, w' = u.val) n m (fun listed' a' => endB md ops n m g listed' = true ∧ Lq a') k (listed0.setIfInBounds i true) (a0.put oi.dst v) := by
          intro u0
          obtain ⟨v', hy', h'⟩ := HQ u0
          have : v = v' := yields_same hy hy' ⟨u0.val, ⟨Up.of (w' := u0.val) u0.ok, rfl⟩, ⟨Up.of (w' := u0.val) (Below.refl _ _), rfl⟩⟩
          subst this
          exact ⟨hy', h'⟩
        obtain ⟨u, rfl⟩ := hw
        have hap : ∀ j, j < m → ∀ o, ops[n + j]? = some o → o.apart ops oi = true := fun j hj o ho => by
          obtain ⟨_, _, o', ho', _, _, h3, _⟩ := free j hj
          have : o = o' := Option.some.inj (ho.symm.trans ho')
          subst this
          exact h3 i oi hin hoi
        obtain ⟨hy2, hp⟩ := puts_yields (n := n) (blk := blk) (done := fun j => listed.getD j false) (fun cs b => hsel i oi cs b hoi) m hap (same u).1
        have hq : qOp P ops (fun w' => ∃ u' : Up u.val, w' = u'.val) i (fun a' => a' = putsC ops n blk (fun j => listed.getD j false) m (a0.put oi.dst v)) (putsC ops n blk (fun j => listed.getD j false) m a0) := hy2.qOp hoi hp
        refine wpOp_of_qOp (C := fun w' => ∃ u' : Up u.val, w' = u'.val) ⟨Up.of (w' := u.val) (Below.refl _ _), rfl⟩ (fun a' w'' hw' ha' => ?_) hq
        subst ha'
        obtain ⟨u', rfl⟩ := hw'
        have hset : ∀ j, n ≤ j → (listed.setIfInBounds i true).getD j false = listed.getD j false := fun j hj => getD_set_ne false (by omega)
        have := ih k (listed0.setIfInBounds i true) (listed.setIfInBounds i true) (a0.put oi.dst v) blk u'.val (by
            rw [cntC_congr (done := fun j => listed.getD j false) m (fun j hj => hset (n + j) (by omega))]; omega) (inv.set hri hin) (by simpa using hsz) (fun j hj => by
            by_cases hij : i = j
            · subst hij
              rw [Array.getElem?_setIfInBounds_self_of_lt (by rw [hsz]; omega), Array.getElem?_setIfInBounds_self_of_lt (by rw [inv.size]; omega)]
            · rw [Array.getElem?_setIfInBounds_ne hij, Array.getElem?_setIfInBounds_ne hij]; exact hR j hj)
            ⟨Up.of (w' := u'.val) (btrans u.ok u'.ok), rfl⟩ (by
              have := hB.keep u'.ok
              exact ⟨fun j hj hd => this.1 j hj ((hset (n + j) (by omega)).symm.trans hd), fun j j' hj hj' hd hd' => this.2 j j' hj hj' ((hset (n + j) (by omega)).symm.trans hd) ((hset (n + j') (by omega)).symm.trans hd')⟩) (fun u0 => (same u0).2)
        rwa [putsC_congr (blk := blk) (done := fun j => listed.getD j false) m _ (fun j hj => ⟨hset (n + j) (by omega), rfl⟩)] at this
    · rcases Nat.lt_or_ge i (n + m) with him | him
      · -- an alloc
        obtain ⟨j, rfl⟩ : ∃ j, i = n + j := ⟨i - n, by omega⟩
        have hj : j < m := by omega
        obtain ⟨_, _, o, ho, _, hg, _, _⟩ := free j hj
        have hdf : listed.getD (n + j) false = false := getD_both (mem_ready.1 hi).1
        have hlt : n + j < listed.size := by rw [hsz]; omega
        have hdt : (listed.setIfInBounds (n + j) true).getD (n + j) false = true := by simp [hlt]
        have hset : ∀ i, i ≠ j → (listed.setIfInBounds (n + j) true).getD (n + i) false = listed.getD (n + i) false := fun i hij => getD_set_ne false (by omega)
        unfold wpOp
        simp only [ho]
        rw [if_pos (by unfold Region.wanted; rw [hg])]
        left
        unfold Oper.wp
        rw [hal j hj o ho]
        simp only [Oper.upon]
        obtain ⟨u, rfl⟩ := hw
        have hb1 : Below u.val.heap.size u.val (u.val.alloc (objs j)) := balloc (Below.refl _ _) _
        have hsize : (u.val.alloc (objs j)).heap.size = u.val.heap.size + 1 := by show (u.val.heap.push _).size = _; simp
        have := ih k listed0 (listed.setIfInBounds (n + j) true) a0 (fun i => if i = n + j then u.val.heap.size else blk i) (u.val.alloc (objs j)) (by
            have := cntC_add (n := n) (i := j) (done := fun j => listed.getD j false) (done' := fun i => (listed.setIfInBounds (n + j) true).getD i false) m hdf hdt hset hj
            omega) inv (by simpa using hsz) (fun i' hi' => by
            rw [Array.getElem?_setIfInBounds_ne (by omega)]; exact hR i' hi') ⟨Up.of (w' := u.val.alloc (objs j)) (btrans u.ok hb1), rfl⟩ (by
              have hk := hB.keep hb1
              refine ⟨fun i HX hd => ?_, fun i i' HX HX' hd hd' hne => ?_⟩
              · by_cases hij : i = j
                · subst hij
                  simp only [if_true]
                  refine ⟨u.ok.size, by omega, ?_⟩
                  show (u.val.heap.push _)[u.val.heap.size]? = _
                  simp
                · simp only [show (n + i = n + j) = False by simp [hij], if_false]
                  exact hk.1 i HX ((hset i hij).symm.trans hd)
              · by_cases hij : i = j
                · subst hij
                  have hij' : i' ≠ i := fun h => hne h.symm
                  simp only [if_true, show (n + i' = n + i) = False by simp [hij'], if_false]
                  have := (hB.1 i' HX' ((hset i' hij').symm.trans hd')).2.1
                  omega
                · by_cases hij' : i' = j
                  · subst hij'
                    simp only [if_true, show (n + i = n + i') = False by simp [hij], if_false]
                    have := (hB.1 i HX ((hset i hij).symm.trans hd)).2.1
                    omega
                  · simp only [show (n + i = n + j) = False by simp [hij], show (n + i' = n + j) = False by simp [hij'], if_false]
                    exact hB.2 i i' HX HX' ((hset i hij).symm.trans hd) ((hset i' hij').symm.trans hd') hne) H
        rw [putsC_add (M := m) (i := j) (B := u.val.heap.size) (blk := blk) (done := fun j => listed.getD j false) (fun x x' hx hx' hxx y y' hy hy' => by
            obtain ⟨_, _, z, hz, _, _, _, h4⟩ := free x hx
            have : y = z := Option.some.inj (hy.symm.trans hz)
            subst this
            exact h4 x' y' hx' (Ne.symm hxx) hy') a0 hdf hdt (by simp) (fun i hij => ⟨hset i hij, by simp [hij]⟩) hj (Nat.le_refl _)] at this
        simpa [ho] using this
      · -- none of the last ones is ready
        exfalso
        cases k with
        | succ k =>
          obtain ⟨i0, hi0, hi0n⟩ := (H (Up.of (Below.refl _ _))).1
          exact tail_waitsA hs hc hn inv' _ i0 rfl hi0n (mem_ready.1 (up i0 hi0n hi0)).1 i him hi
        | zero =>
          obtain ⟨j, hj, hd⟩ := undone rfl
          obtain ⟨_, oi, hoi, hall⟩ := mem_ready.1 hi
          have hilt : i < ops.size := (Array.getElem?_eq_some_iff.1 hoi).1
          by_cases hiN : i = n + m
          · subst hiN
            obtain ⟨o', ho', e, he, hb, hon⟩ := Region.waitsFor_spec (free j hj).2.1
            have : o' = oi := Option.some.inj (ho'.symm.trans hoi)
            subst this
            have h2 := hall e he hb
            rw [hon, hd] at h2
            cases h2
          · have h1 := List.all_eq_true.1 hc i (List.mem_range.2 hilt)
            simp only [Bool.or_eq_true, decide_eq_true_eq] at h1
            rcases h1 with h1 | h1
            · omega
            · obtain ⟨o', ho', e, he, hb, hon⟩ := Region.waitsFor_spec h1
              have : o' = oi := Option.some.inj (ho'.symm.trans hoi)
              subst this
              have h2 := hall e he hb
              rw [hon, getD_both (inv'.tail (i - 1) (by omega) (by omega))] at h2
              cases h2
end

theorem quiet_end {P : Program} {ops : Array Oper} {C : World → Prop} {Q Q' : Act → Prop} (hq : ∀ a, Q a → Q' a) (l : List Oper) : ∀ a, wpQuiet P ops C Q l a → wpQuiet P ops C Q' l a := by
  induction l with
  | nil => exact fun a h => hq a h
  | cons o l ih =>
    intro a h
    unfold wpQuiet at h ⊢
    split
    · rename_i hw
      simp only [hw, if_true] at h
      exact Oper.quiet_mono ih h
    · rename_i hw
      simp only [hw] at h
      exact ih _ h

theorem quiet_late {P : Program} {ops : Array Oper} {N : Nat} {late : List Nat} {C : World → Prop} {Q : Act → Prop} (l : List Oper) : ∀ a, wpQuiet P ops C Q l a → wpQuiet P (withLate ops N late) C Q l a := by
  induction l with
  | nil => exact fun a h => h
  | cons o l ih =>
    intro a h
    unfold wpQuiet at h ⊢
    rw [late_yielded]
    split
    · rename_i hw
      simp only [hw, if_true] at h
      exact Oper.quiet_mono ih h
    · rename_i hw
      simp only [hw] at h
      exact ih _ h

theorem any_of_seq_late {P : Program} {ops : Array Oper} {N : Nat} {late : List Nat} {md : Region.Mode} {Q' : Exit → Act → World → Prop} (l : List Oper) : ∀ (k : Nat) (listed : Array Bool) (a : Act) (w : World), (∀ j, l[j]? = ops[k + j]?) →
    Region.seqB md (withLate ops N late) l.length k listed = true → wpList P ops Q' l a w → wpAny P md (withLate ops N late) Q' l.length listed a w := by
  induction l with
  | nil => exact fun k listed a w hl hB h => ⟨by simpa [Region.seqB] using hB, h⟩
  | cons o l ih =>
    intro k listed a w hl hB h
    have h0 : ops[k]? = some o := by simpa using (hl 0).symm
    simp only [List.length_cons, Region.seqB, Bool.and_eq_true, decide_eq_true_eq] at hB
    refine ⟨fun h1 => (by rw [hB.1] at h1; cases h1), fun i hi => ?_⟩
    rw [hB.1] at hi
    have hik : i = k := by simpa using hi
    subst hik
    have hw : wpOp P ops Q' i (wpList P ops Q' l) a w := by unfold wpOp; simp only [h0]; exact h
    rw [late_wpOp]
    exact wpOp_mono (fun a' w' h' => ih (i + 1) _ a' w' (fun j => by have := hl (j + 1); simpa [Nat.add_assoc, Nat.add_comm 1 j] using this) hB.2 h') hw

/-- the Bool over a region: n operations of the head, m allocs, the forced end; 'late': those of the head that may come behind the first of the end -/
def lexAllocB (ops : Array Oper) (n m : Nat) (late : List Nat) : Bool :=
  let ops' := withLate ops (n + m) late
  lateB ops (n + m) late && (Region.noSelect ops' && sinkA .any ops' n m && chainA .any ops' n m && freeA .any ops' n m && lexHeadA .any ops' n m (ops.size - (n + m)) n 0 (Array.replicate ops.size false))

theorem wp_region_alloc {P : Program} {id : Nat} {Q : Exit → Act → World → Prop} {a : Act} {w : World} {l : List Oper} (n m : Nat) (late : List Nat) (objs : Nat → Obj) (hm : P.follows .mixedOrders = true) (hB : lexAllocB l.toArray n m late = true)
    (hQ : ∀ d v c a w, Q (.panic c) (Act.put a d v) w → Q (.panic c) a w) (hal : allocOk P objs l.toArray n m)
    (h : ∀ u0 : Up w, wpQuiet P l.toArray (fun w' => ∃ u : Up u0.val, w' = u.val) (fun a' => ∀ w', (∃ u : Up w, w' = u.val) → ∀ blk, BlkAt w w' n m objs blk (fun _ => true) → wpList P l.toArray Q (l.drop (n + m)) (putsC l.toArray n blk (fun _ => true) m a') w') (l.take n) a) : (Code.region id l.toArray true).wp P Q a w := by
  simp only [lexAllocB, Bool.and_eq_true] at hB
  obtain ⟨hlate, ⟨⟨⟨hsel, hs⟩, hc⟩, hf⟩, hlex⟩ := hB
  have hn : n + m < l.toArray.size := by
    have := hlate
    simp only [lateB, Bool.and_eq_true, decide_eq_true_eq] at this
    exact this.1.2
  have hn' : n + m < l.length := by simpa using hn
  have htl : (l.take n).length = n := by simp; omega
  have hdl : (l.drop (n + m)).length = l.toArray.size - (n + m) := by simp
  have inv0 : HeadInv .any (withLate l.toArray (n + m) late) n (Array.replicate l.toArray.size false) :=
    ⟨by simp [late_size], fun j oj _ hl => (by rw [getD_replicate_false] at hl; cases hl), fun t _ ht => getD_in (by simpa [late_size] using ht) (getD_replicate_false _ _)⟩
  refine wp_region_any hm (any_late hQ hlate _ _ _ _ (by simp) ?_)
  have T := any_of_alloc (P := P) (ops := withLate l.toArray (n + m) late) (md := .any) (n := n) (m := m) (g := l.toArray.size - (n + m)) (w0 := w) (objs := objs) (Q' := Q)
    (Lq := fun a' => ∀ w', (∃ u : Up w, w' = u.val) → ∀ blk, BlkAt w w' n m objs blk (fun _ => true) → wpList P l.toArray Q (l.drop (n + m)) (putsC l.toArray n blk (fun _ => true) m a') w')
    (Region.noSelect_spec hsel) hs hc hf (by rw [late_size]; exact hn) (fun j hj o ho => by
      rw [late_ne (by omega)] at ho
      exact hal j hj o ho)
    (fun listed0 a0 blk w' hE hq hw hb => by
      have h1 := hq w' hw blk hb
      have e : putsC (withLate l.toArray (n + m) late) n blk (fun _ => true) m a0 = putsC l.toArray n blk (fun _ => true) m a0 := by
        have : ∀ k, k ≤ m → putsC (withLate l.toArray (n + m) late) n blk (fun _ => true) k a0 = putsC l.toArray n blk (fun _ => true) k a0 := by
          intro k
          induction k with
          | zero => exact fun _ => rfl
          | succ k ih =>
            intro hk
            simp only [putsC]
            rw [ih (by omega), late_ne (by omega)]
        exact this m (Nat.le_refl _)
      rw [e]
      simp only [endB, Bool.and_eq_true] at hE
      have := any_of_seq_late (P := P) (md := .any) (Q' := Q) (l.drop (n + m)) (n + m) (markAll n m listed0) _ w' (fun j => by simp [List.getElem?_drop]) (by rw [hdl]; exact hE.2) h1
      rwa [hdl] at this)
    (n + m) n _ (Array.replicate l.toArray.size false) a (fun _ => 0) w.drew (by
      rw [cntC_none m (fun j _ => getD_replicate_false _ _)]) inv0 (by simp [late_size]) (fun j _ => rfl) ⟨Up.of (w' := w.drew) (Below.drew (Below.refl _ _)), rfl⟩ ⟨fun j _ hd => absurd ((getD_replicate_false _ _).symm.trans hd) Bool.false_ne_true, fun j _ _ _ hd => absurd ((getD_replicate_false _ _).symm.trans hd) Bool.false_ne_true⟩ (fun u0 => by
        have := head_lexA (P := P) (C := fun w' => ∃ u : Up u0.val, w' = u.val) (g := l.toArray.size - (n + m)) hsel hs hc (by rw [late_size]; exact hn) (l.take n) 0 (Array.replicate l.toArray.size false) a (fun j hj => by
            have hj' : j < n := by rw [htl] at hj; exact hj
            rw [late_ne (by omega)]
            simp [hj']) (by simpa using htl) inv0 (by rw [htl]; exact hlex) (quiet_late _ _ (h u0))
        rwa [htl] at this)
  rw [putsC_none m a (fun j _ => getD_replicate_false _ _), show n + m + (l.toArray.size - (n + m)) = l.toArray.size by omega] at T
  exact T

/-- the head walked in every world's class, no alloc: some of the head may come late -/
theorem wp_region_late {P : Program} {id : Nat} {Q : Exit → Act → World → Prop} {a : Act} {w : World} {l : List Oper} (n : Nat) (late : List Nat) (hm : P.follows .mixedOrders = true) (hB : lexAllocB l.toArray n 0 late = true)
    (hQ : ∀ d v c a w, Q (.panic c) (Act.put a d v) w → Q (.panic c) a w)
    (h : ∀ u0 : Up w, wpQuiet P l.toArray (fun w' => ∃ u : Up u0.val, w' = u.val) (fun a' => ∀ w', (∃ u : Up w, w' = u.val) → wpList P l.toArray Q (l.drop n) a' w') (l.take n) a) : (Code.region id l.toArray true).wp P Q a w :=
  wp_region_alloc n 0 late (fun _ => .cells #[] 0) hm hB hQ (fun j hj => by omega) (fun u0 => quiet_end (fun a' h1 w' hw' blk _ => h1 w' hw') _ _ (h u0))

/-- one alloc behind the head -/
theorem wp_region_alloc1 {P : Program} {id : Nat} {Q : Exit → Act → World → Prop} {a : Act} {w : World} {l : List Oper} (n : Nat) (late : List Nat) (obj : Obj) (o : Oper) (hm : P.follows .mixedOrders = true) (hB : lexAllocB l.toArray n 1 late = true)
    (hQ : ∀ d v c a w, Q (.panic c) (Act.put a d v) w → Q (.panic c) a w) (ho : l.toArray[n]? = some o) (hal : ∀ ρ w, (execOp ρ o).run P w = .ok (.value (.pointer (some ⟨w.heap.size, 0, none⟩))) (w.alloc obj))
    (h : ∀ u0 : Up w, wpQuiet P l.toArray (fun w' => ∃ u : Up u0.val, w' = u.val) (fun a' => ∀ w', (∃ u : Up w, w' = u.val) → ∀ B, w.heap.size ≤ B → B < w'.heap.size → w'.heap[B]? = some obj →
      wpList P l.toArray Q (l.drop (n + 1)) (a'.put o.dst (.pointer (some ⟨B, 0, none⟩))) w') (l.take n) a) : (Code.region id l.toArray true).wp P Q a w :=
  wp_region_alloc n 1 late (fun _ => obj) hm hB hQ (fun j hj o' ho' ρ w => by
      have hj0 : j = 0 := by omega
      subst hj0
      have : o' = o := Option.some.inj (ho'.symm.trans ho)
      subst this
      exact hal ρ w) (fun u0 => quiet_end (fun a' h1 w' hw' blk hb => by
        have h2 := hb.1 0 (by omega) rfl
        have h3 := h1 w' hw' _ h2.1 h2.2.1 h2.2.2
        simpa [putsC, ho] using h3) _ _ (h u0))

/-- two allocs behind the head -/
theorem wp_region_alloc2 {P : Program} {id : Nat} {Q : Exit → Act → World → Prop} {a : Act} {w : World} {l : List Oper} (n : Nat) (late : List Nat) (obj obj' : Obj) (o o' : Oper) (hm : P.follows .mixedOrders = true) (hB : lexAllocB l.toArray n 2 late = true)
    (hQ : ∀ d v c a w, Q (.panic c) (Act.put a d v) w → Q (.panic c) a w) (ho : l.toArray[n]? = some o) (ho' : l.toArray[n + 1]? = some o') (hal : ∀ ρ w, (execOp ρ o).run P w = .ok (.value (.pointer (some ⟨w.heap.size, 0, none⟩))) (w.alloc obj))
    (hal' : ∀ ρ w, (execOp ρ o').run P w = .ok (.value (.pointer (some ⟨w.heap.size, 0, none⟩))) (w.alloc obj'))
    (h : ∀ u0 : Up w, wpQuiet P l.toArray (fun w' => ∃ u : Up u0.val, w' = u.val) (fun a' => ∀ w', (∃ u : Up w, w' = u.val) → ∀ B B', (w.heap.size ≤ B ∧ B < w'.heap.size ∧ w'.heap[B]? = some obj) → (w.heap.size ≤ B' ∧ B' < w'.heap.size ∧ w'.heap[B']? = some obj') → B ≠ B' →
      wpList P l.toArray Q (l.drop (n + 2)) ((a'.put o.dst (.pointer (some ⟨B, 0, none⟩))).put o'.dst (.pointer (some ⟨B', 0, none⟩))) w') (l.take n) a) : (Code.region id l.toArray true).wp P Q a w :=
  wp_region_alloc n 2 late (fun j => if j = 0 then obj else obj') hm hB hQ (fun j hj x hx ρ w => by
      by_cases hj0 : j = 0
      · subst hj0
        have : x = o := Option.some.inj (hx.symm.trans ho)
        subst this
        exact hal ρ w
      · have hj1 : j = 1 := by omega
        subst hj1
        have : x = o' := Option.some.inj (hx.symm.trans ho')
        subst this
        exact hal' ρ w) (fun u0 => quiet_end (fun a' h1 w' hw' blk hb => by
        have h3 := h1 w' hw' _ _ (hb.1 0 (by omega) rfl) (hb.1 1 (by omega) rfl) (hb.2 0 1 (by omega) (by omega) rfl rfl (by omega))
        simpa [putsC, ho, ho'] using h3) _ _ (h u0))

/-- three allocs behind the head -/
theorem wp_region_alloc3 {P : Program} {id : Nat} {Q : Exit → Act → World → Prop} {a : Act} {w : World} {l : List Oper} (n : Nat) (late : List Nat) (obj : Obj) (o o' o'' : Oper) (hm : P.follows .mixedOrders = true) (hB : lexAllocB l.toArray n 3 late = true)
    (hQ : ∀ d v c a w, Q (.panic c) (Act.put a d v) w → Q (.panic c) a w) (ho : l.toArray[n]? = some o) (ho' : l.toArray[n + 1]? = some o') (ho'' : l.toArray[n + 2]? = some o'') (hal : ∀ ρ w, (execOp ρ o).run P w = .ok (.value (.pointer (some ⟨w.heap.size, 0, none⟩))) (w.alloc obj))
    (hal' : ∀ ρ w, (execOp ρ o').run P w = .ok (.value (.pointer (some ⟨w.heap.size, 0, none⟩))) (w.alloc obj)) (hal'' : ∀ ρ w, (execOp ρ o'').run P w = .ok (.value (.pointer (some ⟨w.heap.size, 0, none⟩))) (w.alloc obj))
    (h : ∀ u0 : Up w, wpQuiet P l.toArray (fun w' => ∃ u : Up u0.val, w' = u.val) (fun a' => ∀ w', (∃ u : Up w, w' = u.val) → ∀ B B' B'', (w.heap.size ≤ B ∧ B < w'.heap.size ∧ w'.heap[B]? = some obj) → (w.heap.size ≤ B' ∧ B' < w'.heap.size ∧ w'.heap[B']? = some obj) →
      (w.heap.size ≤ B'' ∧ B'' < w'.heap.size ∧ w'.heap[B'']? = some obj) → B ≠ B' → B ≠ B'' → B' ≠ B'' →
      wpList P l.toArray Q (l.drop (n + 3)) (((a'.put o.dst (.pointer (some ⟨B, 0, none⟩))).put o'.dst (.pointer (some ⟨B', 0, none⟩))).put o''.dst (.pointer (some ⟨B'', 0, none⟩))) w') (l.take n) a) : (Code.region id l.toArray true).wp P Q a w :=
  wp_region_alloc n 3 late (fun j => obj) hm hB hQ (fun j hj x hx ρ w => by
      have : x = o ∨ x = o' ∨ x = o'' := by
        match j, hj, hx with
        | 0, _, hx => exact .inl (Option.some.inj (hx.symm.trans ho))
        | 1, _, hx => exact .inr (.inl (Option.some.inj (hx.symm.trans ho')))
        | 2, _, hx => exact .inr (.inr (Option.some.inj (hx.symm.trans ho'')))
      rcases this with rfl | rfl | rfl
      · exact hal ρ w
      · exact hal' ρ w
      · exact hal'' ρ w) (fun u0 => quiet_end (fun a' h1 w' hw' blk hb => by
        have h3 := h1 w' hw' _ _ _ (hb.1 0 (by omega) rfl) (hb.1 1 (by omega) rfl) (hb.1 2 (by omega) rfl) (hb.2 0 1 (by omega) (by omega) rfl rfl (by omega)) (hb.2 0 2 (by omega) (by omega) rfl rfl (by omega)) (hb.2 1 2 (by omega) (by omega) rfl rfl (by omega))
        simpa [putsC, ho, ho', ho''] using h3) _ _ (h u0))

/-- a stop behind a list of operations: the walk halts at 'K a w' -/
def stopAt (Q : Exit → Act → World → Prop) (K : Act → World → Prop) : Exit → Act → World → Prop
  | .normal, a, w => K a w
  | e, a, w => Q e a w
theorem wpList_stop {P : Program} {ops : Array Oper} {Q : Exit → Act → World → Prop} {l : List Oper} {a : Act} {w : World}
    (h : ∀ K : Act → World → Prop, Hid (∀ a w, Q .normal a w → K a w) → wpList P ops (stopAt Q K) l a w) : wpList P ops Q l a w := by
  have h1 := h (Q .normal) (Lib.hid fun _ _ h => h)
  have e : stopAt Q (Q .normal) = Q := by funext e a w; cases e <;> rfl
  rwa [e] at h1
end Go.Proofs.Ytegpjjkbbdfggaa.bs
